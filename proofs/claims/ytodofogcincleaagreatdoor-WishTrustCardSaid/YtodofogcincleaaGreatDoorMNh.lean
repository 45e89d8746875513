/-
  Merged texts.
-/
import Derived.Test.YtodofogcincleaaGreatDoorMNf
import Derived.Test.YtodofogcincleaaGreatDoorWoM
set_option linter.all false
set_option maxHeartbeats 1000000
set_option maxRecDepth 100000
namespace Go.Proofs.YtodofogcincleaaGreatDoor
open Go.RowKit
def jU(pre:List ByteArray):List Value:=List.replicate (8-pre.length) (.string (mk []))++pre.reverse.map Value.string
theorem KU{pre:List ByteArray}(h:pre.length<=8):(jU pre).length=8:=by simp[jU];omega
theorem HQ{pre:List ByteArray}(x:ByteArray)(h:pre.length<8):(jU pre).set (8-pre.length-1) (.string x)=jU (pre++[x]):=by
 unfold jU;obtain⟨m,hm⟩:∃m,8-pre.length=m+1:=⟨8-pre.length-1,by omega⟩
 have e:8-(pre++[x]).length=m:=by simp;omega
 rw[hm,e,List.replicate_succ',List.append_assoc];have:m+1-1=(List.replicate m (Value.string (mk []))).length+0:=by simp
 rw[this,List.set_append_right _ _ (by simp)];simp
def lI(ts tl ti:TypeId)(w:World)(b:Nat)(pre:List ByteArray)(W:World):Prop :=
 fc W b ts (jU pre)/\Boxed W (b+1) tl (.slice (some ⟨b,0,none⟩) 8 8)/\Boxed W (b+1+1) ti (.int .i64 ((8-pre.length:Nat):Int))/\Below w.heap.size w W
theorem Jo{ts tl ti:TypeId}{w:World}{b d:Nat}{pre:List ByteArray}{A B:World}(h:lI ts tl ti w b pre A)(hk:dV d A B)(hz:d<=A.heap.size)(hb:b+2<d)(hw:w.heap.size<=d):lI ts tl ti w b pre B:=by
 obtain⟨h1,h2,h3,h4⟩:=h;exact⟨h1.ix hk (by omega),h2.ix hk (by omega),h3.ix hk (by omega),h4.trans (hk.below (by omega) (by omega))⟩
def gx(s:Bs):List Bs×Int:=if bq s=true then(cF s,0)else([],11)
def JU(s:Bs)(w:World)(e:Ending)(w' :World):Prop :=
 ∃v,e= .returned (.tuple #[v,.int .i64 (gx s).2])/\Strs w' v (gx s).1/\Below w.heap.size w w' /\(bq s=true-> ∃B off,v= .slice (some ⟨B,off,none⟩) (cF s).length (cF s).length/\w.heap.size<=B)
end Go.Proofs.YtodofogcincleaaGreatDoor
namespace Go.Proofs.YtodofogcincleaaGreatDoor
open Go.RowKit Go.Shelf
attribute [local go_sem] Oper.semAt_some
theorem Ee(s:ByteArray)(w:World) :
 Calls Tryz.prog 213 #[.string s] w (JU (S s) w):=by
 refine(callsIn_wide (n:=3)).1 ?_;refine callsIn_of_wp_marks Tryz.func213 rfl trivial ?_ rfl;simp only[Tryz.ntmps213,List.size_toArray,List.length_cons,List.length_nil,Nat.reduceAdd,Nat.reduceSub,Array.replicate_succ,Array.replicate_zero,List.push_toArray,List.append_toArray,List.nil_append,List.cons_append];by_cases hv:bq (S s)=true
 rotate_left
 .have hr :bq (S s)=false:=by simpa using hv
  have HR:Hid (gx (S s)=([],11)):=by unfold Hid gx;rw[if_neg hv]
  clear hv
  gi_wp2_with (refine⟨trivial,?_⟩;gi_at_call 136;refine(callsIn_wide.2 (cE _ _)).mono ?_;rintro e w1 ⟨rfl,hb⟩;rw[hr])
  refine⟨_,results_tmp2 rfl _ _ _,.slice none 0 0,?_,?_,hb,λh=>by rw[hr]at h;cases h⟩
  .rw[HR.out];rfl
  .rw[HR.out];exact .inl ⟨_,_,rfl,rfl⟩
 have HR:Hid (gx (S s)=(cF (S s),0)):=by unfold Hid gx;rw[if_pos hv]
 have ht:=fo hv;rw[<- cr]at ht;have hlen:((back (S s)).map mk).length<=8:=by
  rw[aA,back_eq,List.length_reverse];exact Td (sc hv)
 have hA:∀w,(Instr.makeSlice 113 (.int .i64 8) (.int .i64 8)).run Tryz.prog w= .ok (.slice (some ⟨w.heap.size,0,none⟩) 8 8) (w.alloc (.cells #[.string ⟨#[]⟩,.string ⟨#[]⟩,.string ⟨#[]⟩,.string ⟨#[]⟩,.string ⟨#[]⟩,.string ⟨#[]⟩,.string ⟨#[]⟩,.string ⟨#[]⟩] 9)):=λ_=>by kernel_rfl
 gi_wp2_with (refine⟨trivial,?_⟩;gi_at_call 136;refine(callsIn_wide.2 (cE _ _)).mono ?_;rintro e w1 ⟨rfl,hb⟩;rw[hv])
 obtain ⟨W0, hd⟩ : ∃ W0, ((w1.alloc (Obj.cells #[Value.string { data := #[] }, Value.string { data := #[] }, Value.string { data := #[] }, Value.string { data := #[] }, Value.string { data := #[] }, Value.string { data := #[] }, Value.string { data := #[] }, Value.string { data := #[] }] 9)).alloc
         (Obj.cells #[Value.slice (some {block:=w1.heap.size,off:=0}) 8 8] 113)).alloc (Obj.cells #[Value.int IntKind.i64 8] 3)=W0:=⟨_,rfl⟩
 have hc:W0.heap.size=w1.heap.size+3:=by rw[<- hd];simp
 have hC:=hb.size;have hg:lI 9 113 3 w w1.heap.size [] W0:=by
  have hq:=((fc.new w1 9 (jU [])).below (((Below.refl _ (w1.alloc (.cells (jU []).toArray 9))).alloc (Nat.le_refl _) (Obj.cells #[Value.slice (some {block:=w1.heap.size,off:=0}) 8 8] 113)).alloc (by simp) (Obj.cells #[Value.int IntKind.i64 8] 3)) (by simp))
  have hl:=(Boxed.new (w1.alloc (.cells (jU []).toArray 9)) 113 (Value.slice (some {block:=w1.heap.size,off:=0}) 8 8)).alloc (Obj.cells #[Value.int IntKind.i64 8] 3);rw[World.size_alloc]at hl;have ho:=Boxed.new ((w1.alloc (.cells (jU []).toArray 9)).alloc (Obj.cells #[Value.slice (some {block:=w1.heap.size,off:=0}) 8 8] 113)) 3 (Value.int IntKind.i64 8);rw[World.size_alloc,World.size_alloc]at ho
  have e0:(Obj.cells (jU []).toArray 9)=(Obj.cells #[Value.string {data:= #[]},Value.string {data:= #[]},Value.string {data:= #[]},Value.string {data:= #[]},Value.string {data:= #[]},Value.string {data:= #[]},Value.string {data:= #[]},Value.string {data:= #[]}] 9):=rfl;rw[e0,hd]at hq hl ho;refine⟨hq,hl,ho,hb.trans ?_⟩;rw[<- hd];exact(((Below.refl _ w1).alloc hC _).alloc (by simp;omega) _).alloc (by simp;omega) _
 rw[hd];clear hA hd;refine sM (gf:=198) (first:= #[.string s]) (lb:= #[]) rfl (enters_of Tryz.func198 (by kernel_rfl) rfl) (yH s (by omega) w.heap.size W0) (by omega) (λA B h=>h ▸ Below.refl _ _) (λ_=>rfl)
  (lI 9 113 3 w w1.heap.size) (λ_ _ _=>False)
  (λpre A B h hz hk=>Jo h hk (by omega) (by omega) (by omega)) (λc pre A B h hz hk=>h)
  (λW hk=>Jo hg hk (by omega) (by omega) (by omega))
  (λx=>{tmps:= #[Value.string s,undef,Value.slice none 0 0,Value.int IntKind.i64 0,Value.string s,Value.pointer (some {block:=w1.heap.size+1,off:=0}),Value.pointer (some {block:=w1.heap.size+1+1,off:=0}),Value.func (Fn.func 198) #[Value.string s] #[],.string x,Value.string s,Value.string s,Value.bool true,Value.bool false,Value.slice (some {block:=w1.heap.size,off:=0}) 8 8,Value.slice (some {block:=w1.heap.size,off:=0}) 8 8,Value.int IntKind.i64 8,Value.string s,Value.func (Fn.func 198) #[Value.string s] #[],Value.func (Fn.func 198) #[Value.string s] #[],.string x,undef,undef,undef,undef,undef,undef,undef,undef,undef,undef,undef,undef,undef],defers:=[]}) ?assign ?body ?done ?stop
 case assign =>
  intro l x W K hK
  gi_wp2
  exact hK
 case body =>
  rintro l pre x post W hx hs ⟨k1,k2,k3,k4⟩;have hB:pre.length<8:=by rw[hx]at hlen;simp at hlen;omega
  obtain⟨k,hk⟩:∃k,8-pre.length=k+1:=⟨8-pre.length-1,by omega⟩
  have hy:k<8:=by omega
  rw[hk,Int.natCast_add,Int.natCast_one]at k3;have HK:=Lib.hid hk;have hf:=Lib.hid hc;have c1:∃v,W.cell? ⟨w1.heap.size,k,none⟩=some v:=⟨(jU pre)[k]'(by rw[KU (by omega)];omega),by rw[k1.cell,au]⟩
  obtain⟨v1,c1⟩:=c1;have f1:=k1.frozen k;have c2:=k2.cell;have c3:=k3.cell;have f3:=k3.frozen;clear hx hg hk hc hlen
  gi_wp2
  have hc:=hf.out;have e8:8-(pre++[x]).length=k:=by have:=HK.out;simp;omega
  refine⟨?_,?_,?_,?_,?_,?_⟩
  .exact((fq.refl _ _).set (.inl (by omega)) _).setCell (.inl (by show w1.heap.size<_;omega)) _
  .exact((Below.refl _ _).set (by omega) _).setCell (by show _<=w1.heap.size;omega) _
  .have:=(k1.setOther (b:=w1.heap.size+1+1) (i:=0) (by omega) (.int .i64 k)).set k (.string x);rw[<- HQ x hB,HK.out];exact this
  .exact(Below.heap_setCell _ ⟨w1.heap.size,k,none⟩ _ _ (by show _≠w1.heap.size;omega)).trans (k2.setOther (by omega) _)
  .rw[e8];exact(Below.heap_setCell _ ⟨w1.heap.size,k,none⟩ _ _ (by show _≠w1.heap.size;omega)).trans (k3.set _)
  .exact(k4.set (by omega) _).setCell (by show _<=w1.heap.size;omega) _
 case done =>
  rintro W hs ⟨k1,k2,k3,k4⟩ hK;have hf:=Lib.hid hc;have HK:=Lib.hid hK;have c2:=k2.cell;have hh:((back (S s)).map mk).length=(cF (S s)).length:=by rw[back_eq];simp
  have ha:∀(j:Nat) x,(cF (S s))[j]? =some x->W.cell? ⟨w1.heap.size,8-(cF (S s)).length+j,none⟩=some (.string (mk x)):=by
   intro j x hj;rw[k1.cell];unfold jU;rw[hh,cL (by simp)];simp only[List.length_replicate,Nat.add_sub_cancel_left];rw[<- List.map_reverse,back_eq,List.reverse_reverse,List.map_map,bc,hj];rfl
  rw[hh]at k3 hlen;generalize hn:(cF (S s)).length=n at *
  by_cases h0:n=0
  .have hD :Boxed W (w1.heap.size+1+1) 3 (.int .i64 8):=by rw[h0]at k3;exact k3
   have c3:=hD.cell;have HC:Hid (cF (S s)=[]):=List.length_eq_zero_iff.1 (by omega);clear hc hg hK hh ha hn h0 k3 hlen
   gi_wp2
   have hc:=hf.out;refine⟨by simp,.inl ⟨_,_,rfl,run_takeDeferred HK.out,?_⟩⟩;refine⟨_,results_tmp2 rfl _ _ _,.slice (some ⟨w1.heap.size,0,none⟩) 0 0,?_,?_,k4.put (by omega) _,λ_=>⟨_,_,by rw[HC.out];rfl,by omega⟩⟩
   .rw[HR.out];rfl
   .rw[HR.out,HC.out];exact .inr ⟨_,_,_,rfl,Nat.le_refl _,by have:=(k1.kE (l:=W0.heap.size) (by omega) (.deferred none)).lt;exact this,λj x hj=>by simp at hj⟩
  .obtain⟨k,hk⟩:∃k,8-n=k:=⟨_,rfl⟩
   rw[hk]at k3 ha;have hy:k<8:=by omega
   have c3:=k3.cell;have HN:=Lib.hid hn;have HC:=Lib.hid ha;have hi:Hid (8-k=n):=by unfold Hid;omega
   clear hc hg hK hh ha hn h0 hk hlen
   gi_wp2
   have hc:=hf.out;refine⟨by simp,.inl ⟨_,_,rfl,run_takeDeferred HK.out,?_⟩⟩;refine⟨_,results_tmp2 rfl _ _ _,.slice (some ⟨w1.heap.size,k,none⟩) (8-k) (8-k),?_,?_,k4.put (by omega) _,λ_=>⟨_,_,by rw[HN.out,hi.out],by omega⟩⟩
   .rw[HR.out];rfl
   .rw[HR.out];have hE:w1.heap.size<W.heap.size:=k1.lt;refine .inr ⟨w1.heap.size,k,8-k,?_,?_,(k1.kE (l:=W0.heap.size) (by omega) (.deferred none)).lt,λj x hj=>?_⟩
    .show _=Value.slice _ (cF (S s)).length _
     rw[HN.out,hi.out]
    .show(cF (S s)).length<=_
     rw[HN.out,hi.out];exact Nat.le_refl _
    .rw[<- HC.out j x hj];exact World.cell?_of_block (World.putObj_heap_other (by show w1.heap.size≠_;omega))
 case stop =>
  rintro c pre W hp hs h hK;exact h.elim
end Go.Proofs.YtodofogcincleaaGreatDoor
