/-
  Merged texts.
-/
import Derived.Test.YtjojkakjmoefaaaGreatDoorMNf
import Derived.Test.YtjojkakjmoefaaaGreatDoorWoM
set_option linter.all false
set_option maxHeartbeats 2000000
set_option maxRecDepth 100000
namespace Go.Proofs.YtjojkakjmoefaaaGreatDoor
open Go.RowKit
def lN(j:List ByteArray):List Value:=List.replicate (8-j.length) (.string<|mk [])++j.reverse.map Value.string
def Rg{j:List ByteArray}(h:j.length<=8):(lN j).length=8:=by simp[lN];omega
def NK{j:List ByteArray}(x:ByteArray)(h:j.length<8):(lN j).set (8-j.length-1) (.string x)=lN (j++[x]):=by
 unfold lN;obtain⟨m,D⟩:∃m,8-j.length=m+1:=⟨8-j.length-1,by omega⟩
 have e:8-(j++[x]).length=m:=by simp;omega
 rw[D,e,List.replicate_succ',List.append_assoc];have:m+1-1=(List.replicate m<|Value.string<|mk []).length+0:=by simp
 rw[this,List.set_append_right _ _<|by simp];simp
def lI(G tl D:TypeId)(w:World)(b:Nat)(j:List ByteArray)(W:World):Prop :=
 fY W b G (lN j)/\Boxed W (b+1) tl (.slice (some ⟨b,0,none⟩) 8 8)/\Boxed W (b+1+1) D (.int .i64 ((8-j.length:Nat):Int))/\Below w.heap.size w W
def Pn{H tl G:TypeId}{w:World}{b d:Nat}{j:List ByteArray}{A B:World}(h:lI H tl G w b j A)(D:dY d A B)(U:d<=A.heap.size)(N:b+2<d)(T:w.heap.size<=d):lI H tl G w b j B:=by
 obtain⟨h1,I,J,K⟩:=h;exact⟨h1.ia D<|by omega,I.ia D<|by omega,J.ia D<|by omega,K.trans<|D.below (by omega)<|by omega⟩
def gu(s:Bs):List Bs×Int:=if aR s=true then(cu s,0)else([],11)
def PV(s:Bs)(w:World)(e:Ending)(w' :World):Prop :=
 ∃v,e= .returned (.tuple #[v,.int .i64 (gu s).2])/\Strs w' v (gu s).1/\Below w.heap.size w w' /\(aR s=true-> ∃B off,v= .slice (some ⟨B,off,none⟩) (cu s).length (cu s).length/\w.heap.size<=B)
end Go.Proofs.YtjojkakjmoefaaaGreatDoor

namespace Go.Proofs.YtjojkakjmoefaaaGreatDoor
open Go.RowKit Go.Shelf
attribute [local go_sem] Oper.semAt_some
def IU(s:ByteArray)(w:World) :
 Calls Tryz.prog 143 #[.string s] w (PV (S s) w):=by
 refine(callsIn_wide (n:=3)).1 ?_;refine callsIn_of_wp_marks Tryz.func143 rfl trivial ?_ rfl;simp only[Tryz.ntmps143,List.size_toArray,List.length_cons,List.length_nil,Nat.reduceAdd,Nat.reduceSub,Array.replicate_succ,Array.replicate_zero,List.push_toArray,List.append_toArray,List.nil_append,List.cons_append];by_cases hv:aR (S s)=true
 rotate_left
 .have kd :aR (S s)=false:=by simpa using hv
  have HR:Hid<|gu (S s)=([],11):=by unfold Hid gu;rw[if_neg hv]
  clear hv
  gi_wp2_with (refine⟨trivial,?_⟩;gi_at_call 87;refine(callsIn_wide.2<|cG _ _).mono ?_;rintro e w1 ⟨rfl,hb⟩;rw[kd])
  refine⟨_,results_tmp2 rfl _ _ _,.slice none 0 0,?_,?_,hb,λh=>by rw[kd]at h;cases h⟩
  .rw[HR.out];rfl
  .rw[HR.out];exact .inl ⟨_,_,rfl,rfl⟩
 have HR:Hid<|gu (S s)=(cu<|S s,0):=by unfold Hid gu;rw[if_pos hv]
 have hN:=gE hv;rw[<- bY]at hN;have hlen:((back<|S s).map mk).length<=8:=by
  rw[au,back_eq,List.length_reverse];exact Pz<|vt hv
 have kk:∀w,(Instr.makeSlice 76 (.int .i64 8)<|.int .i64 8).run Tryz.prog w= .ok (.slice (some ⟨w.heap.size,0,none⟩) 8 8) (w.alloc<|.cells #[.string ⟨#[]⟩,.string ⟨#[]⟩,.string ⟨#[]⟩,.string ⟨#[]⟩,.string ⟨#[]⟩,.string ⟨#[]⟩,.string ⟨#[]⟩,.string ⟨#[]⟩] 9):=λ_=>by kernel_rfl
 gi_wp2_with (refine⟨trivial,?_⟩;gi_at_call 87;refine(callsIn_wide.2<|cG _ _).mono ?_;rintro e w1 ⟨rfl,hb⟩;rw[hv])
 obtain ⟨W0, hA⟩ : ∃ W0, ((w1.alloc<|Obj.cells #[Value.string { data := #[] }, Value.string { data := #[] }, Value.string { data := #[] }, Value.string { data := #[] }, Value.string { data := #[] }, Value.string { data := #[] }, Value.string { data := #[] }, Value.string { data := #[] }] 9).alloc
         (Obj.cells #[Value.slice (some {block:=w1.heap.size,off:=0}) 8 8] 76)).alloc (Obj.cells #[Value.int IntKind.i64 8] 3)=W0:=⟨_,rfl⟩
 have ha:W0.heap.size=w1.heap.size+3:=by rw[<- hA];simp
 have km:=hb.size;have hP:lI 9 76 3 w w1.heap.size [] W0:=by
  have kb:=((fY.new w1 9<|lN []).below (((Below.refl _<|w1.alloc<|.cells (lN []).toArray 9).alloc (Nat.le_refl _)<|Obj.cells #[Value.slice (some {block:=w1.heap.size,off:=0}) 8 8] 76).alloc (by simp)<|Obj.cells #[Value.int IntKind.i64 8] 3)<|by simp)
  have hC:=(Boxed.new (w1.alloc<|.cells (lN []).toArray 9) 76<|Value.slice (some {block:=w1.heap.size,off:=0}) 8 8).alloc<|Obj.cells #[Value.int IntKind.i64 8] 3;rw[World.size_alloc]at hC;have hD:=Boxed.new ((w1.alloc<|.cells (lN []).toArray 9).alloc<|Obj.cells #[Value.slice (some {block:=w1.heap.size,off:=0}) 8 8] 76) 3<|Value.int IntKind.i64 8;rw[World.size_alloc,World.size_alloc]at hD
  have e0:(Obj.cells (lN []).toArray 9)=(Obj.cells #[Value.string {data:= #[]},Value.string {data:= #[]},Value.string {data:= #[]},Value.string {data:= #[]},Value.string {data:= #[]},Value.string {data:= #[]},Value.string {data:= #[]},Value.string {data:= #[]}] 9):=rfl;rw[e0,hA]at kb hC hD;refine⟨kb,hC,hD,hb.trans ?_⟩;rw[<- hA];exact(((Below.refl _ w1).alloc km _).alloc (by simp;omega) _).alloc (by simp;omega) _
 rw[hA];clear kk hA;refine rF (gf:=137) (first:= #[.string s]) (lb:= #[]) rfl (enters_of Tryz.func137 (by kernel_rfl) rfl) (Cf s (by omega) w.heap.size W0) (by omega) (λA B h=>h ▸ Below.refl _ _) (λ_=>rfl)
  (lI 9 76 3 w w1.heap.size) (λ_ _ _=>False)
  (λpre A B h hz hk=>Pn h hk (by omega) (by omega)<|by omega) (λc pre A B h hz hk=>h)
  (λW hk=>Pn hP hk (by omega) (by omega)<|by omega)
  (λx=>{tmps:= #[Value.string s,undef,Value.slice none 0 0,Value.int IntKind.i64 0,Value.string s,Value.pointer<|some {block:=w1.heap.size+1,off:=0},Value.pointer<|some {block:=w1.heap.size+1+1,off:=0},Value.func (Fn.func 137) #[Value.string s] #[],.string x,Value.string s,Value.string s,Value.bool true,Value.bool false,Value.slice (some {block:=w1.heap.size,off:=0}) 8 8,Value.slice (some {block:=w1.heap.size,off:=0}) 8 8,Value.int IntKind.i64 8,Value.string s,Value.func (Fn.func 137) #[Value.string s] #[],Value.func (Fn.func 137) #[Value.string s] #[],.string x,undef,undef,undef,undef,undef,undef,undef,undef,undef,undef,undef,undef,undef],defers:=[]}) ?assign ?body ?done ?stop
 case assign =>
  intro l x W K hK
  gi_wp2
  exact hK
 case body =>
  rintro l pre x post W hx hM ⟨k1,k2,k3,k4⟩;have kl:pre.length<8:=by rw[hx]at hlen;simp at hlen;omega
  obtain⟨k,hk⟩:∃k,8-pre.length=k+1:=⟨8-pre.length-1,by omega⟩
  have kj:k<8:=by omega
  rw[hk,Int.natCast_add,Int.natCast_one]at k3;have HK:=Lib.hid hk;have hr:=Lib.hid ha;have c1:∃v,W.cell? ⟨w1.heap.size,k,none⟩=some v:=⟨(lN pre)[k]'(by rw[Rg<|by omega];omega),by rw[k1.cell,ao]⟩
  obtain⟨v1,c1⟩:=c1;have f1:=k1.frozen k;have c2:=k2.cell;have c3:=k3.cell;have f3:=k3.frozen;clear hx hP hk ha hlen
  gi_wp2
  have ha:=hr.out;have e8:8-(pre++[x]).length=k:=by have:=HK.out;simp;omega
  refine⟨?_,?_,?_,?_,?_,?_⟩
  .exact((fK.refl _ _).set (.inl<|by omega) _).setCell (.inl<|by show w1.heap.size<_;omega) _
  .exact((Below.refl _ _).set (by omega) _).setCell (by show _<=w1.heap.size;omega) _
  .have:=(k1.setOther (b:=w1.heap.size+1+1) (i:=0) (by omega)<|.int .i64 k).set k<|.string x;rw[<- NK x kl,HK.out];exact this
  .exact(Below.heap_setCell _ ⟨w1.heap.size,k,none⟩ _ _<|by show _≠w1.heap.size;omega).trans<|k2.setOther (by omega) _
  .rw[e8];exact(Below.heap_setCell _ ⟨w1.heap.size,k,none⟩ _ _<|by show _≠w1.heap.size;omega).trans<|k3.set _
  .exact(k4.set (by omega) _).setCell (by show _<=w1.heap.size;omega) _
 case done =>
  rintro W hM ⟨k1,k2,k3,k4⟩ hK;have hr:=Lib.hid ha;have HK:=Lib.hid hK;have c2:=k2.cell;have hR:((back<|S s).map mk).length=(cu<|S s).length:=by rw[back_eq];simp
  have hd:∀(j:Nat) x,(cu<|S s)[j]? =some x->W.cell? ⟨w1.heap.size,8-(cu<|S s).length+j,none⟩=some (.string<|mk x):=by
   intro j x hj;rw[k1.cell];unfold lN;rw[hR,cL<|by simp];simp only[List.length_replicate,Nat.add_sub_cancel_left];rw[<- List.map_reverse,back_eq,List.reverse_reverse,List.map_map,bc,hj];rfl
  rw[hR]at k3 hlen;generalize hn:(cu<|S s).length=n at *
  by_cases h0:n=0
  .have kn :Boxed W (w1.heap.size+1+1) 3<|.int .i64 8:=by rw[h0]at k3;exact k3
   have c3:=kn.cell;have HC:Hid<|cu (S s)=[]:=List.length_eq_zero_iff.1 (by omega);clear ha hP hK hR hd hn h0 k3 hlen
   gi_wp2
   have ha:=hr.out;refine⟨by simp,.inl ⟨_,_,rfl,run_takeDeferred HK.out,?_⟩⟩;refine⟨_,results_tmp2 rfl _ _ _,.slice (some ⟨w1.heap.size,0,none⟩) 0 0,?_,?_,k4.put (by omega) _,λ_=>⟨_,_,by rw[HC.out];rfl,by omega⟩⟩
   .rw[HR.out];rfl
   .rw[HR.out,HC.out];exact .inr ⟨_,_,_,rfl,Nat.le_refl _,by have:=(k1.jU (l:=W0.heap.size) (by omega)<|.deferred none).lt;exact this,λj x hj=>by simp at hj⟩
  .obtain⟨k,hk⟩:∃k,8-n=k:=⟨_,rfl⟩
   rw[hk]at k3 hd;have kj:k<8:=by omega
   have c3:=k3.cell;have HN:=Lib.hid hn;have HC:=Lib.hid hd;have hU:Hid<|8-k=n:=by unfold Hid;omega
   clear ha hP hK hR hd hn h0 hk hlen
   gi_wp2
   have ha:=hr.out;refine⟨by simp,.inl ⟨_,_,rfl,run_takeDeferred HK.out,?_⟩⟩;refine⟨_,results_tmp2 rfl _ _ _,.slice (some ⟨w1.heap.size,k,none⟩) (8-k)<|8-k,?_,?_,k4.put (by omega) _,λ_=>⟨_,_,by rw[HN.out,hU.out],by omega⟩⟩
   .rw[HR.out];rfl
   .rw[HR.out];have hX:w1.heap.size<W.heap.size:=k1.lt;refine .inr ⟨w1.heap.size,k,8-k,?_,?_,(k1.jU (l:=W0.heap.size) (by omega)<|.deferred none).lt,λj x hj=>?_⟩
    .show _=Value.slice _ (cu<|S s).length _
     rw[HN.out,hU.out]
    .show(cu<|S s).length<=_
     rw[HN.out,hU.out];exact Nat.le_refl _
    .rw[<- HC.out j x hj];exact World.cell?_of_block (World.putObj_heap_other<|by show w1.heap.size≠_;omega)
 case stop =>
  rintro c pre W hp hM h hK;exact h.elim
end Go.Proofs.YtjojkakjmoefaaaGreatDoor

namespace Go.Proofs.YtjojkakjmoefaaaGreatDoor
open Go.RowKit
def jw(l:List Bs):Bs×Int:=if okL l=true/\(nameOf l).length<=60 then(nameOf l,0)else([],11)
def GR:jw []=([46],0):=by decide
def Rb{l:List Bs}(h:8<l.length):jw l=([],11):=by
 unfold jw;rw[if_neg];intro e;have:=Pz e.1;omega
def zq(l:List Bs)(k:Nat):Prop:= ∀j x,j<k->l[j]? =some x->bR x=true\/(j=0/\x=[42])
def NA(l:List Bs):zq l 0:=λj _ h _=>absurd h<|Nat.not_lt_zero j
def By{l:List Bs}{k:Nat}{x:Bs}(h:zq l k)(H:l[k]? =some x)(G:bR x=true\/(k=0/\x=[42])):zq l<|k+1:=by
 intro j y I D;by_cases e:j=k
 .subst e;rw[H]at D;cases D;exact G
 .exact h j y (by omega) D
def GQ{l:List Bs}{k:Nat}{x:Bs}(j:l[k]? =some x)(h1:bR x=false)(D:¬(k=0/\x=[42])):jw l=([],11):=by
 unfold jw;rw[if_neg];rintro⟨e,_⟩;cases l with
 |nil=>simp at j
 |cons y t =>
  simp only[okL,aK,Bool.or_eq_true,beq_iff_eq]at e;cases k with
  |zero =>
   simp at j;subst j;rcases e.2.1 with e|e
   .exact D ⟨rfl,e⟩
   .rw[h1]at e;cases e
  |succ k =>
   simp at j;have:=aG.1 e.2.2 x<|aw j;rw[h1]at this;cases this
def QT{l:List Bs}(h:zq l l.length)(H:¬8<l.length):okL l=true:=by
 unfold okL;have D :l.length<=8:=by omega
 simp only[D,decide_true,gq];cases l with
 |nil=>rfl
 |cons y t =>
  simp only[aK,Bool.or_eq_true,beq_iff_eq];refine⟨?_,aG.2 λx G=>?_⟩
  .rcases h 0 y (by simp) (by simp)with h|h
   .exact .inr h
   .exact .inl h.2
  .obtain⟨j,I,e⟩:=List.getElem_of_mem G;rcases h (j+1) x (by simp;omega) (by simp[<- e])with h|h
   .exact h
   .omega
def join_eq(l:List Bs):Lib.join l [46]=dB l:=by
 unfold Lib.join;induction l with
 |nil=>rfl
 |cons x t j =>
  cases t with
  |nil=>simp[dB,List.intercalate]
  |cons y t=>rw[lL x _<|by simp, <- j];simp[List.intercalate,List.intersperse]
def Rc{l:List Bs}(h:okL l=true):(dB l).length<=13*l.length:=by
 have j:∀x∈l,x.length<=12:=by
  intro x j;rcases FQ h j with rfl|h
  .decide
  .exact ND h
 clear h;induction l with
 |nil=>simp[dB]
 |cons x t G =>
  have h1:=j x (by simp);have H:=G λy D=>j y<|aZ _ D;by_cases e:t=[]
  .subst e;simp only[dB];simp;omega
  .rw[lL x t e];simp;omega
end Go.Proofs.YtjojkakjmoefaaaGreatDoor

namespace Go.Proofs.YtjojkakjmoefaaaGreatDoor
open Go.RowKit Go.Shelf
def PU(v:Value)(ls:List Bs)(w:World)(h:Strs w v ls) :
 Calls Tryz.prog 206 #[v] w λe w' =>e= .returned (.tuple #[.string<|mk (jw ls).1,.int .i64 (jw ls).2])/\Below w.heap.size w w' :=by
 rcases h with ⟨a,c,rfl,rfl⟩|⟨B,off,cap,rfl,hF,hB,hf⟩
 .have HR:=Lib.hid GR
  go_enter Tryz.func206,Tryz.ntmps206
  go_wp2
  go_ret2
  rw[HR.out];exact⟨rfl,Below.refl _ _⟩
 by_cases h0:ls=[]
 .subst h0;have HR:=Lib.hid GR
  go_enter Tryz.func206,Tryz.ntmps206
  go_wp2
  go_ret2
  rw[HR.out];exact⟨rfl,Below.refl _ _⟩
 have hZ:0<ls.length:=List.length_pos_iff.2 h0;obtain⟨n,hn⟩:∃n,ls.length=n:=⟨_,rfl⟩
 rw[hn]at hZ hF ⊢;have q0:((n:Int)==0)=false:=by simp;omega
 by_cases h8:8<n
 .have HR:=Lib.hid (Rb (l:=ls)<|by omega);clear hn hf
  go_enter Tryz.func206,Tryz.ntmps206
  go_wp2
  go_ret2
  rw[HR.out];exact⟨rfl,Below.refl _ _⟩
 have d8:decide ((8:Int)<(n:Int))=false:=by simp;omega
 have HN:=Lib.hid hn;have HC:=Lib.hid hf;clear hn hf h0
 go_enter Tryz.func206,Tryz.ntmps206
 go_wp2
 go_loop [15] (λi=> ∃k:Nat,k<=n/\i= .int .i64 k/\zq ls k) (λi=>n-(intOf i).toNat)
 case atStart=>exact⟨0,Nat.zero_le _,rfl,NA _⟩
 case round =>
  obtain⟨k,hk,rfl,hg⟩:=hrel;by_cases hX:k<n
  .have kc:k<ls.length:=by rw[HN.out];exact hX
   obtain⟨x,hx⟩:∃x,ls[k]? =some x:=⟨_,ao kc⟩
   have hc:=HC.out k x hx;have HX:=Lib.hid hx;clear hx kc;by_cases hl:bR x=true
   .have HG:=Lib.hid<|By hg HX.out<|.inl hl;clear hg
    go_wp2_with (go_at_call 138;refine(kx _ _).mono ?_;rintro e w' ⟨rfl,rfl⟩;rw[S_mk,hl])
    go_round
    case rel=>exact⟨k+1,by omega,by go_num,HG.out⟩
    case measure=>simp[intOf];omega
   .have hI :bR x=false:=by simpa using hl
    clear hl;by_cases hG:k=0
    .have ki:k<1:=by omega
     by_cases hs:x=[42]
     .have HG:=Lib.hid<|By hg HX.out<|.inr ⟨hG,hs⟩;have hq:((mk x).toList==[42])=true:=by rw[eU,S_mk,hs];rfl
      clear hg hs hG
      go_wp2_with (go_at_call 138;refine(kx _ _).mono ?_;rintro e w' ⟨rfl,rfl⟩;rw[S_mk,hI])
      go_round
      case rel=>exact⟨k+1,by omega,by go_num,HG.out⟩
      case measure=>simp[intOf];omega
     .have HB:=Lib.hid (GQ HX.out hI λh=>hs h.2);have hq:((mk x).toList==[42])=false:=by rw[eU,S_mk];simpa using hs
      clear hg hs hG
      go_wp2_with (go_at_call 138;refine(kx _ _).mono ?_;rintro e w' ⟨rfl,rfl⟩;rw[S_mk,hI])
      go_ret2
      rw[HB.out];exact⟨rfl,Below.refl _ _⟩
    .have HB:=Lib.hid (GQ HX.out hI λh=>hG h.1);have ki:0<k:=by omega
     clear hg hG
     go_wp2_with (go_at_call 138;refine(kx _ _).mono ?_;rintro e w' ⟨rfl,rfl⟩;rw[S_mk,hI])
     go_ret2
     rw[HB.out];exact⟨rfl,Below.refl _ _⟩
  .obtain rfl:n=k:=by omega
   have hT:okL ls=true:=QT (by rw[HN.out];exact hg) (by rw[HN.out];exact h8);have hS:ls≠[]:=by intro e;have:=HN.out;rw[e]at this;simp at this;omega
   have ho:nameOf ls=dB ls:=by unfold nameOf;rw[if_neg hS]
   have hW:=Rc hT;rw[HN.out]at hW;have hY:(ls.map mk).map (·.data.toList)=ls:=by
    rw[List.map_map];have:((λx:ByteArray=>x.data.toList) ∘ mk)=id:=funext λl=>S_mk l
    rw[this,List.map_id]
   have hQ:Lib.join ((ls.map mk).map (·.data.toList)) (⟨#[46]⟩:ByteArray).data.toList=dB ls:=by rw[hY];exact join_eq ls
   have hj := Tryz.strings_Join B off cap (ls.map mk) ⟨#[46]⟩ w (fun j x hx => by
       rw[bc]at hx;cases hl:ls[j]? with
       |none=>rw[hl]at hx;simp at hx
       |some y=>rw[hl]at hx;simp at hx;rw[<- hx];exact HC.out j y hl) hB (by rw[au,HN.out];omega) (by rw[au,HN.out];exact hF) (by rw[hQ];omega)
   rw[hQ,au,HN.out]at hj;have HJ:=Lib.hid hj;have ha:(mk<|dB ls).size=(dB ls).length:=by rw[bY,S_mk]
   have hr:=Lib.hid ha;have ka:Hid<|(⟨(dB ls).toArray⟩:ByteArray)=mk (dB ls):=rfl;by_cases hN:60<(mk<|dB ls).size
   .have HR:Hid<|jw ls=([],11):=by unfold Hid jw;rw[if_neg];intro h;rw[ho]at h;rw[ha]at hN;omega
    clear hj hQ hY hW ho hS hT hg ha
    go_wp2_with (go_at_call 224;refine HJ.out.mono ?_;rintro e w' ⟨rfl,hb⟩;rw[ka.out])
    go_ret2
    rw[HR.out];exact⟨rfl,hb⟩
   .have HR:Hid<|jw ls=(dB ls,0):=by unfold Hid jw;rw[ho,if_pos ⟨hT,by rw[ha]at hN;omega⟩]
    clear hj hQ hY hW ho hS hT hg ha
    go_wp2_with (go_at_call 224;refine HJ.out.mono ?_;rintro e w' ⟨rfl,hb⟩;rw[ka.out])
    go_ret2
    rw[HR.out];exact⟨rfl,hb⟩
attribute [local go_sem] Oper.semAt_some
def Su(V o:Nat)(n:ByteArray)(w:World):Calls Tryz.prog 205 #[.pointer<|some ⟨V,o,none⟩,.string n] w λe w' =>
 e= .returned (.func (.func 222) #[] #[.pointer<|some ⟨w.heap.size,0,none⟩,.pointer<|some ⟨w.heap.size+1,0,none⟩])/\w' =(w.alloc<|.cells #[.pointer<|some ⟨V,o,none⟩] 157).alloc (.cells #[.string n] 9):=by
 go_enter Tryz.func205,Tryz.ntmps205
 go_wp2
 go_ret
 exact⟨rfl,rfl⟩
def cvI(ty:Nat->Int)(p:Value)(w:World)(j:List Nat)(W:World):Prop:=Boxed W w.heap.size 157 p/\Boxed W (w.heap.size+1) 3 (.int .i64 0)/\Below w.heap.size w W/\ ∀i∈j,ty i≠8
def cvX(r:Int)(w:World)(c:Code)(j:List Nat)(W:World):Prop:=c= .ret/\Boxed W (w.heap.size+1) 3 (.int .i64 r)/\Below w.heap.size w W
def JP{ty:Nat->Int}{p:Value}{w:World}{d:Nat}{j:List Nat}{A B:World}(h:cvI ty p w j A)(D:dY d A B)(K:d<=A.heap.size)(J:w.heap.size+1<d):cvI ty p w j B:=by
 obtain⟨h1,G,H,I⟩:=h;exact⟨h1.ia D<|by omega,G.ia D J,H.trans<|D.below (by omega) K,I⟩
def Wq{r:Int}{w:World}{d:Nat}{c:Code}{j:List Nat}{A B:World}(h:cvX r w c j A)(D:dY d A B)(J:d<=A.heap.size)(I:w.heap.size+1<d):cvX r w c j B:=by
 obtain⟨h1,G,H⟩:=h;exact⟨h1,G.ia D I,H.trans<|D.below (by omega) J⟩
def tS(j:Array Value)(b:Nat)(hp:j.getD 4 undef= .pointer (some ⟨b,0,none⟩))(W:World)(x:Value)(h:Boxed W b 3 x):(results Tryz.f161 j).run Tryz.prog W= .ok x W:=by
 have G:Tryz.f161.results= #[.cell 4 3]:=rfl;have D:=h.cell;rw[bU]at hp;simp[results,G,hp,asAddr,loadVar,isAgg,run_underlying Tryz.underlying3,load,Sem.run,D]
def Ih(xs:List Nat)(ty:Nat->Int)(r:Int)(V o len:Nat)(n:ByteArray)(w:World)
 (hL:∀w1,Below w.heap.size w w1->Boxed w1 (w.heap.size+1+1) 157 (.pointer<|some ⟨V,o,none⟩)->Boxed w1 (w.heap.size+1+1+1) 9 (.string n)->w1.heap.size=w.heap.size+4 ->
  PX Tryz.prog 222 #[] #[.pointer<|some ⟨w.heap.size+1+1,0,none⟩,.pointer<|some ⟨w.heap.size+1+1+1,0,none⟩] (λi:Nat=> #[.int .i64 i]) xs (λA B=>Below A.heap.size A B) w1.heap.size w1)
 (hf:∀W,Below w.heap.size w W-> ∀x∈xs,∃B off cap,W.cell? ⟨V,o+1,none⟩=some (.slice (some ⟨B,off,none⟩) len cap)/\x<len/\W.cell? ⟨B,off+x*5+1,none⟩=some (.int .i64<|ty x))
 (hJ:(∀x∈xs,ty x≠8)->r= -1) (hV:∀pre x post,xs=pre++x::post->ty x=8->(∀y∈pre,ty y≠8)->r=x) :
 Calls Tryz.prog 161 #[.pointer<|some ⟨V,o,none⟩,.string n] w λe w' =>e= .returned (.int .i64 r)/\Below w.heap.size w w' :=by
 refine(callsIn_wide (n:=3)).1 ?_;refine callsIn_of_wp_marks Tryz.func161 rfl trivial ?_ rfl;simp only[Tryz.ntmps161,List.size_toArray,List.length_cons,List.length_nil,Nat.reduceAdd,Nat.reduceSub,Array.replicate_succ,Array.replicate_zero,List.push_toArray,List.append_toArray,List.nil_append,List.cons_append]
 gi_wp2_with (refine⟨trivial,?_⟩;gi_at_call 205;refine(callsIn_wide.2<|Su V o n _).mono ?_;rintro e w1 ⟨rfl,hy⟩)
 rw[<- hy];have ha:w1.heap.size=w.heap.size+4:=by rw[hy];simp
 have hE:Below w.heap.size w w1:=by
  rw[hy];exact((((Below.refl _ w).alloc (Nat.le_refl _) _).alloc (by simp) _).alloc (by simp;omega) _).alloc (by simp;omega) _
 have kf:Boxed w1 w.heap.size 157<|.pointer<|some ⟨V,o,none⟩:=by
  rw[hy];exact(((Boxed.new w _ _).alloc _).alloc _).alloc _
 have hC:Boxed w1 (w.heap.size+1) 3<|.int .i64 0:=by
  have:=((Boxed.new (w.alloc<|Obj.cells #[Value.pointer<|some {block:=V,off:=o}] 157) 3<|.int .i64 0).alloc<|Obj.cells #[Value.pointer<|some {block:=V,off:=o}] 157).alloc<|Obj.cells #[Value.string n] 9;rw[World.size_alloc]at this;rw[hy];exact this
 have hD:Boxed w1 (w.heap.size+1+1) 157<|.pointer<|some ⟨V,o,none⟩:=by
  have:=(Boxed.new ((w.alloc<|Obj.cells #[Value.pointer<|some {block:=V,off:=o}] 157).alloc<|Obj.cells #[Value.int IntKind.i64 0] 3) 157<|.pointer<|some ⟨V,o,none⟩).alloc<|Obj.cells #[Value.string n] 9;rw[World.size_alloc,World.size_alloc]at this;rw[hy];exact this
 have kg:Boxed w1 (w.heap.size+1+1+1) 9<|.string n:=by
  have:=Boxed.new (((w.alloc<|Obj.cells #[Value.pointer<|some {block:=V,off:=o}] 157).alloc<|Obj.cells #[Value.int IntKind.i64 0] 3).alloc<|Obj.cells #[Value.pointer<|some {block:=V,off:=o}] 157) 9<|.string n;rw[World.size_alloc,World.size_alloc,World.size_alloc]at this;rw[hy];exact this
 have hh:=hL w1 hE hD kg ha;clear hy hL;refine rF (gf:=222) (first:= #[]) (lb:= #[.pointer<|some ⟨w.heap.size+1+1,0,none⟩,.pointer<|some ⟨w.heap.size+1+1+1,0,none⟩]) rfl (enters_of Tryz.func222 (by kernel_rfl) rfl) hh (Nat.le_refl _) (λA B h=>h) (λ_=>rfl)
  (cvI ty (.pointer<|some ⟨V,o,none⟩) w) (cvX r w)
  (λpre A B h hz hk=>JP h hk (by omega)<|by omega) (λc pre A B h hz hk=>Wq h hk (by omega)<|by omega)
  (λW hk=>JP ⟨kf,hC,hE,λi hi=>by cases hi⟩ hk (by omega)<|by omega)
  (fun x => { tmps := #[Value.pointer<|some { block := V, off := o }, Value.string n, Value.pointer<|some { block := w.heap.size, off := 0 }, undef, Value.pointer<|some { block := w.heap.size + 1, off := 0 }, .int .i64 x, Value.pointer<|some { block := V, off := o }, Value.string n,
        Value.func (Fn.func 222) #[] #[Value.pointer<|some {block:=w.heap.size+1+1,off:=0},Value.pointer<|some {block:=w.heap.size+1+1+1,off:=0}],.int .i64 x,undef,undef,undef,undef,undef,undef,undef,undef,undef,undef,undef],defers:=[]}) ?assign ?body ?done ?stop
 case assign =>
  intro l x W K hK
  gi_wp2
  exact hK
 case body =>
  rintro l pre x post W hx hM ⟨k1,k2,k3,k4⟩;obtain⟨B,off,cap,ko,hlen,kh⟩:=hf W k3 x (by rw[hx];simp);have c1:=k1.cell;have c3:=k2.cell;have f3:=k2.frozen;have hX:(x:Int)<(len:Int):=by omega
  have kp:(0:Int)<=(x:Int):=aB x;have HX:=Lib.hid hx;have hr:=Lib.hid ha;by_cases ht:ty x=8
  .rw[ht]at kh;have HT:=Lib.hid ht;clear hx ha ht hh hlen
   gi_wp2
   have ha:=hr.out;have e:=hV pre x post HX.out HT.out k4;refine⟨(fK.refl _ _).set (.inl<|by omega) _,rfl,?_,k3.set (by omega) _⟩;rw[e];exact k2.set _
  .have hS:(ty x==8)=false:=by simpa using ht
   have HT:=Lib.hid ht;clear hx ha ht hh hlen
   gi_wp2
   refine⟨fK.refl _ _,Below.refl _ _,k1,k2,k3,λi hi=>?_⟩;rcases List.mem_append.1 hi with hi|hi
   .exact k4 i hi
   .rw[List.mem_singleton.1 hi];exact HT.out
 case done =>
  rintro W hM ⟨k1,k2,k3,k4⟩ hK;have hr:=Lib.hid ha;have HK:=Lib.hid hK;have c3:=k2.cell;have f3:=k2.frozen;have e:=hJ k4;have HE:=Lib.hid e;clear ha hK e hh
  gi_wp2
  have ha:=hr.out;have ke :=od (b:=w.heap.size+1) (.int .i64 (-1)) (show w1.heap.size≠w.heap.size+1 by omega) HK.out;refine⟨by simp,.inl ⟨_,_,rfl,run_takeDeferred ke,?_⟩⟩;refine⟨_,tS _ (w.heap.size+1) rfl _ (.int .i64 (-1))<|(k2.set _).jU (by omega) _,by rw[HE.out],?_⟩;exact(k3.set (by omega) _).put (by omega) _
 case stop =>
  rintro c pre W hp hM ⟨rfl,k2,k3⟩ hK;have hr:=Lib.hid ha;have HK:=Lib.hid hK;have c3:=k2.cell;clear ha hK hh
  gi_wp2
  have ha:=hr.out;refine⟨by simp,.inl ⟨_,_,rfl,run_takeDeferred HK.out,?_⟩⟩;refine⟨_,tS _ (w.heap.size+1) rfl _ (.int .i64 r)<|k2.jU (by omega) _,rfl,?_⟩;exact k3.put (by omega) _
