/-
  Merged texts.
-/
import Derived.Test.YtmaepddmaghpjaaGreatDoorMNf
import Derived.Test.YtmaepddmaghpjaaGreatDoorWoM
set_option linter.all false
namespace NP
open Go Go.RowKit
def iQ(pre:List ByteArray):List Value:=List.replicate (8-pre.length) (.string (mk []))++pre.reverse.map Value.string
theorem Jl{pre:List ByteArray}(h:pre.length<=8):(iQ pre).length=8:=by simp[iQ];omega
theorem FW{pre:List ByteArray}(x:ByteArray)(h:pre.length<8):(iQ pre).set (8-pre.length-1) (.string x)=iQ (pre++[x]):=by
 unfold iQ;obtain⟨m,hm⟩:∃m,8-pre.length=m+1:=⟨8-pre.length-1,by omega⟩
 have e:8-(pre++[x]).length=m:=by simp;omega
 rw[hm,e,List.replicate_succ',List.append_assoc];have:m+1-1=(List.replicate m (Value.string (mk []))).length+0:=by simp
 rw[this,List.set_append_right _ _ (by simp)];simp
def lI(ts tl ti:TypeId)(w:World)(b:Nat)(pre:List ByteArray)(W:World):Prop :=
 eB W b ts (iQ pre)/\Boxed W (b+1) tl (.slice (some ⟨b,0,none⟩) 8 8)/\Boxed W (b+1+1) ti (.int .i64 ((8-pre.length:Nat):Int))/\Below w.heap.size w W
theorem GX{ts tl ti:TypeId}{w:World}{b d:Nat}{pre:List ByteArray}{A B:World}(h:lI ts tl ti w b pre A)(hk:bL d A B)(hz:d<=A.heap.size)(hb:b+2<d)(hw:w.heap.size<=d):lI ts tl ti w b pre B:=by
 obtain⟨h1,h2,h3,h4⟩:=h;exact⟨h1.eE hk (by omega),h2.eE hk (by omega),h3.eE hk (by omega),h4.trans (hk.below (by omega) (by omega))⟩
def dC(s:Bs):List Bs×Int:=if aq s=true then(bc s,0)else([],11)
def Hz(s:Bs)(w:World)(e:Ending)(w' :World):Prop :=
 ∃v,e= .returned (.tuple #[v,.int .i64 (dC s).2])/\Strs w' v (dC s).1/\Below w.heap.size w w' /\(aq s=true-> ∃B off,v= .slice (some ⟨B,off,none⟩) (bc s).length (bc s).length/\w.heap.size<=B)
end NP
namespace Go.Proofs.YtmaepddmaghpjaaGreatDoor
open Go.RowKit Go.Shelf NP
attribute [local go_sem] Oper.semAt_some
set_option maxHeartbeats 1000000 in
theorem CG(s:ByteArray)(w:World) :
 Calls Tryz.prog 121 #[.string s] w (Hz (S s) w):=by
 refine(callsIn_wide (n:=3)).1 ?_;refine callsIn_of_wp_marks Tryz.func121 rfl trivial ?_ rfl;simp only[Tryz.ntmps121,List.size_toArray,List.length_cons,List.length_nil,Nat.reduceAdd,Nat.reduceSub,Array.replicate_succ,Array.replicate_zero,List.push_toArray,List.append_toArray,List.nil_append,List.cons_append];by_cases hv:aq (S s)=true
 rotate_left
 . have hv' :aq (S s)=false:=by simpa using hv
   have HR:Hid (dC (S s)=([],11)):=by unfold Hid dC;rw[if_neg hv]
   clear hv
   gi_wp2_with (refine⟨trivial,?_⟩;gi_at_call 93;refine(callsIn_wide.2 (bE _ _)).mono ?_;rintro e w1 ⟨rfl,hb⟩;rw[hv'])
   refine⟨_,results_tmp2 rfl _ _ _,.slice none 0 0,?_,?_,hb,λh=>by rw[hv']at h;cases h⟩
   . rw[HR.out];rfl
   . rw[HR.out];exact .inl ⟨_,_,rfl,rfl⟩
 have HR:Hid (dC (S s)=(bc (S s),0)):=by unfold Hid dC;rw[if_pos hv]
 have h60:=cU hv;rw[<- bn]at h60;have hlen:((back (S s)).map mk).length<=8:=by
  rw[ak,back_eq,List.length_reverse];exact Hf (oh hv)
 have hmk:∀w,(Instr.makeSlice 73 (.int .i64 8) (.int .i64 8)).run Tryz.prog w= .ok (.slice (some ⟨w.heap.size,0,none⟩) 8 8) (w.alloc (.cells #[.string ⟨#[]⟩,.string ⟨#[]⟩,.string ⟨#[]⟩,.string ⟨#[]⟩,.string ⟨#[]⟩,.string ⟨#[]⟩,.string ⟨#[]⟩,.string ⟨#[]⟩] 9)):=λ_=>by kernel_rfl
 gi_wp2_with (refine⟨trivial,?_⟩;gi_at_call 93;refine(callsIn_wide.2 (bE _ _)).mono ?_;rintro e w1 ⟨rfl,hb⟩;rw[hv])
 obtain ⟨W0, hW0⟩ : ∃ W0, ((w1.alloc (Obj.cells #[Value.string { data := #[] }, Value.string { data := #[] }, Value.string { data := #[] }, Value.string { data := #[] }, Value.string { data := #[] }, Value.string { data := #[] }, Value.string { data := #[] }, Value.string { data := #[] }] 9)).alloc
         (Obj.cells #[Value.slice (some {block:=w1.heap.size,off:=0}) 8 8] 73)).alloc (Obj.cells #[Value.int IntKind.i64 8] 3)=W0:=⟨_,rfl⟩
 have hsz:W0.heap.size=w1.heap.size+3:=by rw[<- hW0];simp
 have hz1:=hb.size;have hI0:lI 9 73 3 w w1.heap.size [] W0:=by
  have hal:=((eB.new w1 9 (iQ [])).below (((Below.refl _ (w1.alloc (.cells (iQ []).toArray 9))).alloc (Nat.le_refl _) (Obj.cells #[Value.slice (some {block:=w1.heap.size,off:=0}) 8 8] 73)).alloc (by simp) (Obj.cells #[Value.int IntKind.i64 8] 3)) (by simp))
  have hb1:=(Boxed.new (w1.alloc (.cells (iQ []).toArray 9)) 73 (Value.slice (some {block:=w1.heap.size,off:=0}) 8 8)).alloc (Obj.cells #[Value.int IntKind.i64 8] 3);rw[World.size_alloc]at hb1;have hb2:=Boxed.new ((w1.alloc (.cells (iQ []).toArray 9)).alloc (Obj.cells #[Value.slice (some {block:=w1.heap.size,off:=0}) 8 8] 73)) 3 (Value.int IntKind.i64 8);rw[World.size_alloc,World.size_alloc]at hb2
  have e0:(Obj.cells (iQ []).toArray 9)=(Obj.cells #[Value.string {data:= #[]},Value.string {data:= #[]},Value.string {data:= #[]},Value.string {data:= #[]},Value.string {data:= #[]},Value.string {data:= #[]},Value.string {data:= #[]},Value.string {data:= #[]}] 9):=rfl;rw[e0,hW0]at hal hb1 hb2;refine⟨hal,hb1,hb2,hb.trans ?_⟩;rw[<- hW0];exact(((Below.refl _ w1).alloc hz1 _).alloc (by simp;omega) _).alloc (by simp;omega) _
 rw[hW0];clear hmk hW0;refine nL (gf:=116) (first:= #[.string s]) (lb:= #[]) rfl (enters_of Tryz.func116 (by kernel_rfl) rfl) (xh s (by omega) w.heap.size W0) (by omega) (λA B h=>h ▸ Below.refl _ _) (λ_=>rfl)
  (lI 9 73 3 w w1.heap.size) (λ_ _ _=>False)
  (λpre A B h hz hk=>GX h hk (by omega) (by omega) (by omega)) (λc pre A B h hz hk=>h)
  (λW hk=>GX hI0 hk (by omega) (by omega) (by omega))
  (λx=>{tmps:= #[Value.string s,undef,Value.slice none 0 0,Value.int IntKind.i64 0,Value.string s,Value.pointer (some {block:=w1.heap.size+1,off:=0}),Value.pointer (some {block:=w1.heap.size+1+1,off:=0}),Value.func (Fn.func 116) #[Value.string s] #[],.string x,Value.string s,Value.string s,Value.bool true,Value.bool false,Value.slice (some {block:=w1.heap.size,off:=0}) 8 8,Value.slice (some {block:=w1.heap.size,off:=0}) 8 8,Value.int IntKind.i64 8,Value.string s,Value.func (Fn.func 116) #[Value.string s] #[],Value.func (Fn.func 116) #[Value.string s] #[],.string x,undef,undef,undef,undef,undef,undef,undef,undef,undef,undef,undef,undef,undef],defers:=[]}) ?assign ?body ?done ?stop
 case assign =>
  intro l x W K hK
  gi_wp2
  exact hK
 case body =>
  rintro l pre x post W hx hzW ⟨k1,k2,k3,k4⟩;have hp8:pre.length<8:=by rw[hx]at hlen;simp at hlen;omega
  obtain⟨k,hk⟩:∃k,8-pre.length=k+1:=⟨8-pre.length-1,by omega⟩
  have hk8:k<8:=by omega
  rw[hk,Int.natCast_add,Int.natCast_one]at k3;have HK:=Lib.hid hk;have HSZ:=Lib.hid hsz;have c1:∃v,W.cell? ⟨w1.heap.size,k,none⟩=some v:=⟨(iQ pre)[k]'(by rw[Jl (by omega)];omega),by rw[k1.cell,ah]⟩
  obtain⟨v1,c1⟩:=c1;have f1:=k1.frozen k;have c2:=k2.cell;have c3:=k3.cell;have f3:=k3.frozen;clear hx hI0 hk hsz hlen
  gi_wp2
  have hsz:=HSZ.out;have e8:8-(pre++[x]).length=k:=by have:=HK.out;simp;omega
  refine⟨?_,?_,?_,?_,?_,?_⟩
  . exact((dh.refl _ _).set (.inl (by omega)) _).setCell (.inl (by show w1.heap.size<_;omega)) _
  . exact((Below.refl _ _).set (by omega) _).setCell (by show _<=w1.heap.size;omega) _
  . have:=(k1.setOther (b:=w1.heap.size+1+1) (i:=0) (by omega) (.int .i64 k)).set k (.string x);rw[<- FW x hp8,HK.out];exact this
  . exact(Below.heap_setCell _ ⟨w1.heap.size,k,none⟩ _ _ (by show _≠w1.heap.size;omega)).trans (k2.setOther (by omega) _)
  . rw[e8];exact(Below.heap_setCell _ ⟨w1.heap.size,k,none⟩ _ _ (by show _≠w1.heap.size;omega)).trans (k3.set _)
  . exact(k4.set (by omega) _).setCell (by show _<=w1.heap.size;omega) _
 case done =>
  rintro W hzW ⟨k1,k2,k3,k4⟩ hK;have HSZ:=Lib.hid hsz;have HK:=Lib.hid hK;have c2:=k2.cell;have hll:((back (S s)).map mk).length=(bc (S s)).length:=by rw[back_eq];simp
  have hcells:∀(j:Nat) x,(bc (S s))[j]? =some x->W.cell? ⟨w1.heap.size,8-(bc (S s)).length+j,none⟩=some (.string (mk x)):=by
   intro j x hj;rw[k1.cell];unfold iQ;rw[hll,bW (by simp)];simp only[List.length_replicate,Nat.add_sub_cancel_left];rw[<- List.map_reverse,back_eq,List.reverse_reverse,List.map_map,aM,hj];rfl
  rw[hll]at k3 hlen;generalize hn:(bc (S s)).length=n at *
  by_cases h0:n=0
  . have k3' :Boxed W (w1.heap.size+1+1) 3 (.int .i64 8):=by rw[h0]at k3;exact k3
    have c3:=k3'.cell;have HC:Hid (bc (S s)=[]):=List.length_eq_zero_iff.1 (by omega);clear hsz hI0 hK hll hcells hn h0 k3 hlen
    gi_wp2
    have hsz:=HSZ.out;refine⟨by simp,.inl ⟨_,_,rfl,run_takeDeferred HK.out,?_⟩⟩;refine⟨_,results_tmp2 rfl _ _ _,.slice (some ⟨w1.heap.size,0,none⟩) 0 0,?_,?_,k4.put (by omega) _,λ_=>⟨_,_,by rw[HC.out];rfl,by omega⟩⟩
    . rw[HR.out];rfl
    . rw[HR.out,HC.out];exact .inr ⟨_,_,_,rfl,Nat.le_refl _,by have:=(k1.gX (l:=W0.heap.size) (by omega) (.deferred none)).lt;exact this,λj x hj=>by simp at hj⟩
  . obtain⟨k,hk⟩:∃k,8-n=k:=⟨_,rfl⟩
    rw[hk]at k3 hcells;have hk8:k<8:=by omega
    have c3:=k3.cell;have HN:=Lib.hid hn;have HC:=Lib.hid hcells;have HKN:Hid (8-k=n):=by unfold Hid;omega
    clear hsz hI0 hK hll hcells hn h0 hk hlen
    gi_wp2
    have hsz:=HSZ.out;refine⟨by simp,.inl ⟨_,_,rfl,run_takeDeferred HK.out,?_⟩⟩;refine⟨_,results_tmp2 rfl _ _ _,.slice (some ⟨w1.heap.size,k,none⟩) (8-k) (8-k),?_,?_,k4.put (by omega) _,λ_=>⟨_,_,by rw[HN.out,HKN.out],by omega⟩⟩
    . rw[HR.out];rfl
    . rw[HR.out];have hlt:w1.heap.size<W.heap.size:=k1.lt;refine .inr ⟨w1.heap.size,k,8-k,?_,?_,(k1.gX (l:=W0.heap.size) (by omega) (.deferred none)).lt,λj x hj=>?_⟩
      . show _=Value.slice _ (bc (S s)).length _
        rw[HN.out,HKN.out]
      . show(bc (S s)).length<=_
        rw[HN.out,HKN.out];exact Nat.le_refl _
      . rw[<- HC.out j x hj];exact World.cell?_of_block (World.putObj_heap_other (by show w1.heap.size≠_;omega))
 case stop =>
  rintro c pre W hp hzW h hK;exact h.elim
end Go.Proofs.YtmaepddmaghpjaaGreatDoor
namespace NP
open Go Go.RowKit
def gD(l:List Bs):Bs×Int:=if okL l=true/\(nameOf l).length<=60 then(nameOf l,0)else([],11)
theorem Bo:gD []=([46],0):=by decide
theorem Jf{l:List Bs}(h:8<l.length):gD l=([],11):=by
 unfold gD;rw[if_neg];intro e;have:=Hf e.1;omega
def uL(l:List Bs)(k:Nat):Prop:= ∀j x,j<k->l[j]? =some x->bf x=true\/(j=0/\x=[42])
theorem FN(l:List Bs):uL l 0:=λj _ h _=>absurd h (Nat.not_lt_zero j)
theorem wA{l:List Bs}{k:Nat}{x:Bs}(h:uL l k)(hx:l[k]? =some x)(hg:bf x=true\/(k=0/\x=[42])):uL l (k+1):=by
 intro j y hj hy;by_cases e:j=k
 . subst e;rw[hx]at hy;cases hy;exact hg
 . exact h j y (by omega) hy
theorem Bn{l:List Bs}{k:Nat}{x:Bs}(hx:l[k]? =some x)(h1:bf x=false)(h2:¬(k=0/\x=[42])):gD l=([],11):=by
 unfold gD;rw[if_neg];rintro⟨e,_⟩;cases l with
 |nil=>simp at hx
 |cons y t =>
  simp only[okL,ay,Bool.or_eq_true,beq_iff_eq]at e;cases k with
  |zero =>
   simp at hx;subst hx;rcases e.2.1 with e|e
   . exact h2 ⟨rfl,e⟩
   . rw[h1]at e;cases e
  |succ k =>
   simp at hx;have:=av.1 e.2.2 x (ao hx);rw[h1]at this;cases this
theorem IU{l:List Bs}(h:uL l l.length)(h8:¬8<l.length):okL l=true:=by
 unfold okL;have h8' :l.length<=8:=by omega
 simp only[h8',decide_true,du];cases l with
 |nil=>rfl
 |cons y t =>
  simp only[ay,Bool.or_eq_true,beq_iff_eq];refine⟨?_,av.2 λx hx=>?_⟩
  . rcases h 0 y (by simp) (by simp)with h|h
    . exact .inr h
    . exact .inl h.2
  . obtain⟨j,hj,e⟩:=List.getElem_of_mem hx;rcases h (j+1) x (by simp;omega) (by simp[<- e])with h|h
    . exact h
    . omega
theorem join_eq(l:List Bs):Lib.join l [46]=cw l:=by
 unfold Lib.join;induction l with
 |nil=>rfl
 |cons x t ih =>
  cases t with
  |nil=>simp[cw,List.intercalate]
  |cons y t=>rw[iP x _ (by simp), <- ih];simp[List.intercalate,List.intersperse]
theorem Jg{l:List Bs}(h:okL l=true):(cw l).length<=13*l.length:=by
 have hx:∀x∈l,x.length<=12:=by
  intro x hx;rcases vQ h hx with rfl|h
  . decide
  . exact FP h
 clear h;induction l with
 |nil=>simp[cw]
 |cons x t ih =>
  have h1:=hx x (by simp);have h2:=ih (λy hy=>hx y (aK _ hy));by_cases e:t=[]
  . subst e;simp only[cw];simp;omega
  . rw[iP x t e];simp;omega
end NP
namespace Go.Proofs.YtmaepddmaghpjaaGreatDoor
open Go.RowKit Go.Shelf NP
set_option maxHeartbeats 400000 in
theorem Hy(v:Value)(ls:List Bs)(w:World)(h:Strs w v ls) :
 Calls Tryz.prog 216 #[v] w λe w' =>e= .returned (.tuple #[.string (mk (gD ls).1),.int .i64 (gD ls).2])/\Below w.heap.size w w' :=by
 rcases h with ⟨a,c,rfl,rfl⟩|⟨B,off,cap,rfl,hcap,hB,hcell⟩
 . have HR:=Lib.hid Bo
   go_enter Tryz.func216,Tryz.ntmps216
   go_wp2
   go_ret2
   rw[HR.out];exact⟨rfl,Below.refl _ _⟩
 by_cases h0:ls=[]
 . subst h0;have HR:=Lib.hid Bo
   go_enter Tryz.func216,Tryz.ntmps216
   go_wp2
   go_ret2
   rw[HR.out];exact⟨rfl,Below.refl _ _⟩
 have hpos:0<ls.length:=List.length_pos_iff.2 h0;obtain⟨n,hn⟩:∃n,ls.length=n:=⟨_,rfl⟩
 rw[hn]at hpos hcap ⊢;have q0:((n:Int)==0)=false:=by simp;omega
 by_cases h8:8<n
 . have HR:=Lib.hid (Jf (l:=ls) (by omega));clear hn hcell
   go_enter Tryz.func216,Tryz.ntmps216
   go_wp2
   go_ret2
   rw[HR.out];exact⟨rfl,Below.refl _ _⟩
 have d8:decide ((8:Int)<(n:Int))=false:=by simp;omega
 have HN:=Lib.hid hn;have HC:=Lib.hid hcell;clear hn hcell h0
 go_enter Tryz.func216,Tryz.ntmps216
 go_wp2
 go_loop [15] (λi=> ∃k:Nat,k<=n/\i= .int .i64 k/\uL ls k) (λi=>n-(intOf i).toNat)
 case atStart=>exact⟨0,Nat.zero_le _,rfl,FN _⟩
 case round =>
  obtain⟨k,hk,rfl,hg⟩:=hrel;by_cases hlt:k<n
  . have hkl:k<ls.length:=by rw[HN.out];exact hlt
    obtain⟨x,hx⟩:∃x,ls[k]? =some x:=⟨_,ah hkl⟩
    have hc:=HC.out k x hx;have HX:=Lib.hid hx;clear hx hkl;by_cases hl:bf x=true
    . have HG:=Lib.hid (wA hg HX.out (.inl hl));clear hg
      go_wp2_with (go_at_call 134;refine(ik _ _).mono ?_;rintro e w' ⟨rfl,rfl⟩;rw[S_mk,hl])
      go_round
      case rel=>exact⟨k+1,by omega,by go_num,HG.out⟩
      case measure=>simp[intOf];omega
    . have hl' :bf x=false:=by simpa using hl
      clear hl;by_cases hk0:k=0
      . have hk1:k<1:=by omega
        by_cases hs:x=[42]
        . have HG:=Lib.hid (wA hg HX.out (.inr ⟨hk0,hs⟩));have hq:((mk x).toList==[42])=true:=by rw[cN,S_mk,hs];rfl
          clear hg hs hk0
          go_wp2_with (go_at_call 134;refine(ik _ _).mono ?_;rintro e w' ⟨rfl,rfl⟩;rw[S_mk,hl'])
          go_round
          case rel=>exact⟨k+1,by omega,by go_num,HG.out⟩
          case measure=>simp[intOf];omega
        . have HB:=Lib.hid (Bn HX.out hl' (λh=>hs h.2));have hq:((mk x).toList==[42])=false:=by rw[cN,S_mk];simpa using hs
          clear hg hs hk0
          go_wp2_with (go_at_call 134;refine(ik _ _).mono ?_;rintro e w' ⟨rfl,rfl⟩;rw[S_mk,hl'])
          go_ret2
          rw[HB.out];exact⟨rfl,Below.refl _ _⟩
      . have HB:=Lib.hid (Bn HX.out hl' (λh=>hk0 h.1));have hk1:0<k:=by omega
        clear hg hk0
        go_wp2_with (go_at_call 134;refine(ik _ _).mono ?_;rintro e w' ⟨rfl,rfl⟩;rw[S_mk,hl'])
        go_ret2
        rw[HB.out];exact⟨rfl,Below.refl _ _⟩
  . obtain rfl:n=k:=by omega
    have hok:okL ls=true:=IU (by rw[HN.out];exact hg) (by rw[HN.out];exact h8);have hne:ls≠[]:=by intro e;have:=HN.out;rw[e]at this;simp at this;omega
    have hname:nameOf ls=cw ls:=by unfold nameOf;rw[if_neg hne]
    have hjl:=Jg hok;rw[HN.out]at hjl;have hmm:(ls.map mk).map (·.data.toList)=ls:=by
     rw[List.map_map];have:((λx:ByteArray=>x.data.toList) ∘ mk)=id:=funext λl=>S_mk l
     rw[this,List.map_id]
    have hee:Lib.join ((ls.map mk).map (·.data.toList)) (⟨#[46]⟩:ByteArray).data.toList=cw ls:=by rw[hmm];exact join_eq ls
    have hj := Tryz.strings_Join B off cap (ls.map mk) ⟨#[46]⟩ w (fun j x hx => by
        rw[aM]at hx;cases hl:ls[j]? with
        |none=>rw[hl]at hx;simp at hx
        |some y=>rw[hl]at hx;simp at hx;rw[<- hx];exact HC.out j y hl) hB (by rw[ak,HN.out];omega) (by rw[ak,HN.out];exact hcap) (by rw[hee];omega)
    rw[hee,ak,HN.out]at hj;have HJ:=Lib.hid hj;have hsz:(mk (cw ls)).size=(cw ls).length:=by rw[bn,S_mk]
    have HSZ:=Lib.hid hsz;have HMK:Hid ((⟨(cw ls).toArray⟩:ByteArray)=mk (cw ls)):=rfl;by_cases h60:60<(mk (cw ls)).size
    . have HR:Hid (gD ls=([],11)):=by unfold Hid gD;rw[if_neg];intro h;rw[hname]at h;rw[hsz]at h60;omega
      clear hj hee hmm hjl hname hne hok hg hsz
      go_wp2_with (go_at_call 226;refine HJ.out.mono ?_;rintro e w' ⟨rfl,hb⟩;rw[HMK.out])
      go_ret2
      rw[HR.out];exact⟨rfl,hb⟩
    . have HR:Hid (gD ls=(cw ls,0)):=by unfold Hid gD;rw[hname,if_pos ⟨hok,by rw[hsz]at h60;omega⟩]
      clear hj hee hmm hjl hname hne hok hg hsz
      go_wp2_with (go_at_call 226;refine HJ.out.mono ?_;rintro e w' ⟨rfl,hb⟩;rw[HMK.out])
      go_ret2
      rw[HR.out];exact⟨rfl,hb⟩
attribute [local go_sem] Oper.semAt_some
set_option maxRecDepth 100000
theorem Kl(V o:Nat)(n:ByteArray)(w:World):Calls Tryz.prog 215 #[.pointer (some ⟨V,o,none⟩),.string n] w λe w' =>
 e= .returned (.func (.func 224) #[] #[.pointer (some ⟨w.heap.size,0,none⟩),.pointer (some ⟨w.heap.size+1,0,none⟩)])/\w' =(w.alloc (.cells #[.pointer (some ⟨V,o,none⟩)] 184)).alloc (.cells #[.string n] 9):=by
 go_enter Tryz.func215,Tryz.ntmps215
 go_wp2
 go_ret
 exact⟨rfl,rfl⟩
def cvI(ty:Nat->Int)(p:Value)(w:World)(pre:List Nat)(W:World):Prop:=Boxed W w.heap.size 184 p/\Boxed W (w.heap.size+1) 3 (.int .i64 0)/\Below w.heap.size w W/\ ∀i∈pre,ty i≠8
def cvX(r:Int)(w:World)(c:Code)(pre:List Nat)(W:World):Prop:=c= .ret/\Boxed W (w.heap.size+1) 3 (.int .i64 r)/\Below w.heap.size w W
theorem Dl{ty:Nat->Int}{p:Value}{w:World}{d:Nat}{pre:List Nat}{A B:World}(h:cvI ty p w pre A)(hk:bL d A B)(hz:d<=A.heap.size)(hd:w.heap.size+1<d):cvI ty p w pre B:=by
 obtain⟨h1,h2,h3,h4⟩:=h;exact⟨h1.eE hk (by omega),h2.eE hk hd,h3.trans (hk.below (by omega) hz),h4⟩
theorem NT{r:Int}{w:World}{d:Nat}{c:Code}{pre:List Nat}{A B:World}(h:cvX r w c pre A)(hk:bL d A B)(hz:d<=A.heap.size)(hd:w.heap.size+1<d):cvX r w c pre B:=by
 obtain⟨h1,h2,h3⟩:=h;exact⟨h1,h2.eE hk hd,h3.trans (hk.below (by omega) hz)⟩
theorem px(tmps:Array Value)(b:Nat)(hp:tmps.getD 4 undef= .pointer (some ⟨b,0,none⟩))(W:World)(x:Value)(h:Boxed W b 3 x):(results Tryz.f188 tmps).run Tryz.prog W= .ok x W:=by
 have hr:Tryz.f188.results= #[.cell 4 3]:=rfl;have hc:=h.cell;rw[bd]at hp;simp[results,hr,hp,asAddr,loadVar,isAgg,run_underlying Tryz.underlying3,load,Sem.run,hc]
set_option maxHeartbeats 2000000 in
theorem Cb(xs:List Nat)(ty:Nat->Int)(r:Int)(V o len:Nat)(n:ByteArray)(w:World)
 (hseq:∀w1,Below w.heap.size w w1->Boxed w1 (w.heap.size+1+1) 184 (.pointer (some ⟨V,o,none⟩))->Boxed w1 (w.heap.size+1+1+1) 9 (.string n)->w1.heap.size=w.heap.size+4 ->
  HH Tryz.prog 224 #[] #[.pointer (some ⟨w.heap.size+1+1,0,none⟩),.pointer (some ⟨w.heap.size+1+1+1,0,none⟩)] (λi:Nat=> #[.int .i64 i]) xs (λA B=>Below A.heap.size A B) w1.heap.size w1)
 (hcell:∀W,Below w.heap.size w W-> ∀x∈xs,∃B off cap,W.cell? ⟨V,o+1,none⟩=some (.slice (some ⟨B,off,none⟩) len cap)/\x<len/\W.cell? ⟨B,off+x*5+1,none⟩=some (.int .i64 (ty x)))
 (hnone:(∀x∈xs,ty x≠8)->r= -1) (hhit:∀pre x post,xs=pre++x::post->ty x=8->(∀y∈pre,ty y≠8)->r=x) :
 Calls Tryz.prog 188 #[.pointer (some ⟨V,o,none⟩),.string n] w λe w' =>e= .returned (.int .i64 r)/\Below w.heap.size w w' :=by
 refine(callsIn_wide (n:=3)).1 ?_;refine callsIn_of_wp_marks Tryz.func188 rfl trivial ?_ rfl;simp only[Tryz.ntmps188,List.size_toArray,List.length_cons,List.length_nil,Nat.reduceAdd,Nat.reduceSub,Array.replicate_succ,Array.replicate_zero,List.push_toArray,List.append_toArray,List.nil_append,List.cons_append]
 gi_wp2_with (refine⟨trivial,?_⟩;gi_at_call 215;refine(callsIn_wide.2 (Kl V o n _)).mono ?_;rintro e w1 ⟨rfl,hw1⟩)
 rw[<- hw1];have hsz:w1.heap.size=w.heap.size+4:=by rw[hw1];simp
 have hbel:Below w.heap.size w w1:=by
  rw[hw1];exact((((Below.refl _ w).alloc (Nat.le_refl _) _).alloc (by simp) _).alloc (by simp;omega) _).alloc (by simp;omega) _
 have hb0:Boxed w1 w.heap.size 184 (.pointer (some ⟨V,o,none⟩)):=by
  rw[hw1];exact(((Boxed.new w _ _).alloc _).alloc _).alloc _
 have hb1:Boxed w1 (w.heap.size+1) 3 (.int .i64 0):=by
  have:=((Boxed.new (w.alloc (Obj.cells #[Value.pointer (some {block:=V,off:=o})] 184)) 3 (.int .i64 0)).alloc (Obj.cells #[Value.pointer (some {block:=V,off:=o})] 184)).alloc (Obj.cells #[Value.string n] 9);rw[World.size_alloc]at this;rw[hw1];exact this
 have hb2:Boxed w1 (w.heap.size+1+1) 184 (.pointer (some ⟨V,o,none⟩)):=by
  have:=(Boxed.new ((w.alloc (Obj.cells #[Value.pointer (some {block:=V,off:=o})] 184)).alloc (Obj.cells #[Value.int IntKind.i64 0] 3)) 184 (.pointer (some ⟨V,o,none⟩))).alloc (Obj.cells #[Value.string n] 9);rw[World.size_alloc,World.size_alloc]at this;rw[hw1];exact this
 have hb3:Boxed w1 (w.heap.size+1+1+1) 9 (.string n):=by
  have:=Boxed.new (((w.alloc (Obj.cells #[Value.pointer (some {block:=V,off:=o})] 184)).alloc (Obj.cells #[Value.int IntKind.i64 0] 3)).alloc (Obj.cells #[Value.pointer (some {block:=V,off:=o})] 184)) 9 (.string n);rw[World.size_alloc,World.size_alloc,World.size_alloc]at this;rw[hw1];exact this
 have hseq1:=hseq w1 hbel hb2 hb3 hsz;clear hw1 hseq;refine nL (gf:=224) (first:= #[]) (lb:= #[.pointer (some ⟨w.heap.size+1+1,0,none⟩),.pointer (some ⟨w.heap.size+1+1+1,0,none⟩)]) rfl (enters_of Tryz.func224 (by kernel_rfl) rfl) hseq1 (Nat.le_refl _) (λA B h=>h) (λ_=>rfl)
  (cvI ty (.pointer (some ⟨V,o,none⟩)) w) (cvX r w)
  (λpre A B h hz hk=>Dl h hk (by omega) (by omega)) (λc pre A B h hz hk=>NT h hk (by omega) (by omega))
  (λW hk=>Dl ⟨hb0,hb1,hbel,λi hi=>by cases hi⟩ hk (by omega) (by omega))
  (fun x => { tmps := #[Value.pointer (some { block := V, off := o }), Value.string n, Value.pointer (some { block := w.heap.size, off := 0 }), undef, Value.pointer (some { block := w.heap.size + 1, off := 0 }), .int .i64 x, Value.pointer (some { block := V, off := o }), Value.string n,
        Value.func (Fn.func 224) #[] #[Value.pointer (some {block:=w.heap.size+1+1,off:=0}),Value.pointer (some {block:=w.heap.size+1+1+1,off:=0})],.int .i64 x,undef,undef,undef,undef,undef,undef,undef,undef,undef,undef,undef],defers:=[]}) ?assign ?body ?done ?stop
 case assign =>
  intro l x W K hK
  gi_wp2
  exact hK
 case body =>
  rintro l pre x post W hx hzW ⟨k1,k2,k3,k4⟩;obtain⟨B,off,cap,hc1,hlen,hc2⟩:=hcell W k3 x (by rw[hx];simp);have c1:=k1.cell;have c3:=k2.cell;have f3:=k2.frozen;have hlt:(x:Int)<(len:Int):=by omega
  have hge:(0:Int)<=(x:Int):=aw x;have HX:=Lib.hid hx;have HSZ:=Lib.hid hsz;by_cases ht:ty x=8
  . rw[ht]at hc2;have HT:=Lib.hid ht;clear hx hsz ht hseq1 hlen
    gi_wp2
    have hsz:=HSZ.out;have e:=hhit pre x post HX.out HT.out k4;refine⟨(dh.refl _ _).set (.inl (by omega)) _,rfl,?_,k3.set (by omega) _⟩;rw[e];exact k2.set _
  . have hne:(ty x==8)=false:=by simpa using ht
    have HT:=Lib.hid ht;clear hx hsz ht hseq1 hlen
    gi_wp2
    refine⟨dh.refl _ _,Below.refl _ _,k1,k2,k3,λi hi=>?_⟩;rcases List.mem_append.1 hi with hi|hi
    . exact k4 i hi
    . rw[List.mem_singleton.1 hi];exact HT.out
 case done =>
  rintro W hzW ⟨k1,k2,k3,k4⟩ hK;have HSZ:=Lib.hid hsz;have HK:=Lib.hid hK;have c3:=k2.cell;have f3:=k2.frozen;have e:=hnone k4;have HE:=Lib.hid e;clear hsz hK e hseq1
  gi_wp2
  have hsz:=HSZ.out;have hK' :=kO (b:=w.heap.size+1) (.int .i64 (-1)) (show w1.heap.size≠w.heap.size+1 by omega) HK.out;refine⟨by simp,.inl ⟨_,_,rfl,run_takeDeferred hK',?_⟩⟩;refine⟨_,px _ (w.heap.size+1) rfl _ (.int .i64 (-1)) ((k2.set _).gX (by omega) _),by rw[HE.out],?_⟩;exact(k3.set (by omega) _).put (by omega) _
 case stop =>
  rintro c pre W hp hzW ⟨rfl,k2,k3⟩ hK;have HSZ:=Lib.hid hsz;have HK:=Lib.hid hK;have c3:=k2.cell;clear hsz hK hseq1
  gi_wp2
  have hsz:=HSZ.out;refine⟨by simp,.inl ⟨_,_,rfl,run_takeDeferred HK.out,?_⟩⟩;refine⟨_,px _ (w.heap.size+1) rfl _ (.int .i64 r) (k2.gX (by omega) _),rfl,?_⟩;exact k3.put (by omega) _
end Go.Proofs.YtmaepddmaghpjaaGreatDoor
