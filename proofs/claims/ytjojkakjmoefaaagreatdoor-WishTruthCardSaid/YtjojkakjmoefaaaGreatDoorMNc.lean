/-
  Merged texts.
-/
import Derived.Test.YtjojkakjmoefaaaGreatDoorNaM
import Derived.Test.YtjojkakjmoefaaaGreatDoorNbM
set_option linter.all false
set_option maxHeartbeats 1000000
namespace Go.Proofs.YtjojkakjmoefaaaGreatDoor
def pc(j:List Bs):Bool:=j.getLast? ==some [42]
def vst(j:List Bs):Prop:= ∀D,vgo false 0 (j++D)=vgo (pc j) j.length D
def aaR:vst []:=λ_=>rfl
def YA{j:List Bs}{x:Bs}(h:vst j)(G:pc j=false)(J:j.length+1<=8)(H:x=[42]\/bR x=true):vst<|j++[x]:=by
 intro I;rw[List.append_assoc,h];show vgo (pc j) j.length (x::I)=_
 rw[vgo,G,if_neg<|by simp;omega,if_neg<|by simp;exact λD=>H.resolve_left D];simp[pc]
def aaQ{j:List Bs}{x:Bs}(h:vst j)(D:pc j=true\/8<j.length+1\/(¬x=[42]/\bR x=false))(H:List Bs):vgo false 0 (j++x::H)=false:=by
 rw[h,vgo];rcases D with D|D|⟨h1,h2⟩
 .simp[D]
 .simp[D]
 .by_cases G:pc j=true\/8<j.length+1
  .simp[G]
  .rw[if_neg<|by simpa using G,if_pos<|by simp[h1,h2]]
end Go.Proofs.YtjojkakjmoefaaaGreatDoor

namespace Go.Proofs.YtjojkakjmoefaaaGreatDoor
open Go.RowKit Go.Shelf
attribute [local go_sem] Oper.semAt_some
def ET(s:ByteArray)(h:S s=[46]):aR (S s)=true:=by simp[aR,h]
def ES(s:ByteArray)(h0:¬S s=[46])(h:60<s.size):aR (S s)=false:=by
 have:¬(S s).length<=60:=by rw[<- bY];omega
 simp[aR,h0,this]
def Yu(s:ByteArray)(h0:¬S s=[46])(h:¬60<s.size):aR (S s)=vgo false 0 (back<|S s):=by
 have:(S s).length<=60:=by rw[<- bY];omega
 simp[aR,h0,this]
def vI(w:World)(b:Nat)(j:List ByteArray)(W:World):Prop :=
 vst (j.map S)/\j.length<=8/\Boxed W b 4 (.bool false)/\Boxed W (b+1) 3 (.int .i64 j.length)/\Boxed W (b+1+1) 4 (.bool<|pc<|j.map S)/\Below w.heap.size w W
def vX(w:World)(b:Nat)(c:Code)(j:List ByteArray)(W:World):Prop :=
 c= .ret/\(∀D,vgo false 0 (j.map S++D)=false)/\Boxed W b 4 (.bool false)/\Below w.heap.size w W
def aaN{w:World}{d:Nat}{j:List ByteArray}{A B:World}(h:vI w w.heap.size j A)(N:d=w.heap.size+3)(T:d+2<=A.heap.size)(D:dY d A B):vI w w.heap.size j B:=by
 obtain⟨h1,G,H,I,J,K⟩:=h;exact⟨h1,G,H.ia D<|by omega,I.ia D<|by omega,J.ia D<|by omega,K.trans<|D.below (by omega)<|by omega⟩
def aaO{w:World}{d:Nat}{c:Code}{j:List ByteArray}{A B:World}(h:vX w w.heap.size c j A)(J:d=w.heap.size+3)(K:d+2<=A.heap.size)(D:dY d A B):vX w w.heap.size c j B:=by
 obtain⟨h1,G,H,I⟩:=h;exact⟨h1,G,H.ia D<|by omega,I.trans<|D.below (by omega)<|by omega⟩
def cG(t:ByteArray)(w:World) :
 Calls Tryz.prog 87 #[.string t] w λe w' =>e= .returned (.bool<|aR<|S t)/\Below w.heap.size w w' :=by
 refine(callsIn_wide (n:=3)).1 ?_;refine callsIn_of_wp_marks Tryz.func87 rfl trivial ?_ rfl;simp only[Tryz.ntmps87,List.size_toArray,List.length_cons,List.length_nil,Nat.reduceAdd,Nat.reduceSub,Array.replicate_succ,Array.replicate_zero,List.push_toArray,List.append_toArray,List.nil_append,List.cons_append];by_cases hr:S t=[46]
 .have HV:=Lib.hid<|ET t hr;have hq:=kD hr;clear hr
  gi_wp2
  refine⟨.bool true,?_,?_⟩
  .simp[results,Tryz.results87,go_sem]
  .rw[HV.out];exact⟨rfl,(Below.refl _ _).alloc (Nat.le_refl _) _⟩
 by_cases hA:60<t.size
 .have HV:=Lib.hid<|ES t hr hA;have hq:=gH hr;clear hr
  gi_wp2
  refine⟨.bool false,?_,?_⟩
  .simp[results,Tryz.results87,go_sem]
  .rw[HV.out];exact⟨rfl,(Below.refl _ _).alloc (Nat.le_refl _) _⟩
 have HV:=Lib.hid<|Yu t hr hA;have hq:=gH hr;have d60:decide ((60:Int)<t.size)=false:=by simp;omega
 clear hr
 gi_wp2
 obtain⟨W0,hh⟩:∃W0,(((w.alloc<|Obj.cells #[Value.bool false] 4).alloc<|Obj.cells #[Value.int IntKind.i64 0] 3).alloc<|Obj.cells #[Value.bool false] 4)=W0:=⟨_,rfl⟩
 have ha:W0.heap.size=w.heap.size+3:=by rw[<- hh];simp
 have hE:vI w w.heap.size [] W0:=by
  refine⟨aaR,by simp,?_,?_,?_,?_⟩
  .rw[<- hh];exact((Boxed.new w _ _).alloc _).alloc _
  .rw[<- hh];have:=(Boxed.new (w.alloc<|Obj.cells #[Value.bool false] 4) 3<|Value.int IntKind.i64 0).alloc<|Obj.cells #[Value.bool false] 4;rw[World.size_alloc]at this;exact this
  .rw[<- hh];have:=(Boxed.new ((w.alloc<|Obj.cells #[Value.bool false] 4).alloc<|Obj.cells #[Value.int IntKind.i64 0] 3) 4<|Value.bool false)
   rw[World.size_alloc,World.size_alloc]at this;exact this
  .rw[<- hh];exact(((Below.refl _ w).alloc (Nat.le_refl _) _).alloc (by simp) _).alloc (by simp;omega) _
 rw[hh];refine rF (gf:=137) (first:= #[.string t]) (lb:= #[]) rfl (enters_of Tryz.func137 (by kernel_rfl) rfl) (Cf t (by omega) w.heap.size W0) (by omega) (λA B h=>h ▸ Below.refl _ _) (λ_=>rfl)
  (vI w w.heap.size) (vX w w.heap.size) (λpre A B h hz hk=>aaN h ha hz hk) (λc pre A B h hz hk=>aaO h ha hz hk)
  (λW hk=>?start)
  (fun x => { tmps := #[Value.string t, undef, Value.pointer<|some ⟨w.heap.size, 0, none⟩, Value.pointer<|some ⟨w.heap.size + 1, 0, none⟩, Value.pointer<|some ⟨w.heap.size + 1 + 1, 0, none⟩, .string x, Value.string t, Value.bool false,
        Value.string t,Value.int IntKind.i64 ↑t.size,Value.bool false,Value.string t,Value.func (Fn.func 137) #[Value.string t] #[],.string x,undef,undef,undef,undef,undef,undef,undef,undef,undef,undef,undef,undef,undef,undef,undef,undef],defers:=[]}) ?assign ?body ?done ?stop
 case start =>
  obtain⟨h1,h2,h3,h4,h5,h6⟩:=hE;exact⟨h1,h2,h3.ia hk<|by omega,h4.ia hk<|by omega,h5.ia hk<|by omega,h6.trans<|hk.below (by omega)<|by omega⟩
 case assign =>
  intro l x W K hK
  gi_wp2
  exact hK
 case body =>
  rintro l pre x post W hx hz ⟨h1,h2,h3,h4,h5,h6⟩;clear hx hE hq d60 hh HV;have c3:=h3.cell;have f3:=h3.frozen;have c4:=h4.cell;have f4:=h4.frozen;have c5:=h5.cell;have f5:=h5.frozen;have HB:=Lib.hid λhb=>aaQ (x:=S x) h1 hb;have HG:=Lib.hid λhw hc hx=>YA (x:=S x) h1 hw hc hx;have HL:Hid<|(pre.map S).length=pre.length:=by simp[Hid]
  have HZ:=Lib.hid ha;clear h1 ha;by_cases hw:pc (pre.map S)=true
  .rw[hw]at c5 h5;have HX:=Lib.hid<|HB.out<|.inl hw;clear hw
   gi_wp2
   have ha:=HZ.out;refine⟨((fK.refl _ _).set (.inl<|by omega) _).set (.inl<|by omega) _,rfl,?_,(h3.setOther (by omega) _).set _,(h6.set (by omega) _).set (by omega) _⟩;intro ls;rw[List.map_append,List.append_assoc];exact HX.out ls
  have hD :pc (pre.map S)=false:=by simpa using hw
  rw[hD]at c5 h5;have HW:=Lib.hid hD;clear hw hD;by_cases hc:8<pre.length+1
  .have HX:=Lib.hid (HB.out<|.inr<|.inl<|by rw[HL.out];exact hc)
   gi_wp2
   have ha:=HZ.out;refine⟨((fK.refl _ _).set (.inl<|by omega) _).set (.inl<|by omega) _,rfl,?_,(h3.setOther (by omega) _).set _,(h6.set (by omega) _).set (by omega) _⟩;intro ls;rw[List.map_append,List.append_assoc];exact HX.out ls
  have dc:decide ((8:Int)<(pre.length:Int)+1)=false:=by simp;omega
  by_cases hs:S x=[42]
  .have hq:=kD hs;have HX:=Lib.hid<|HG.out HW.out (by rw[HL.out];omega)<|.inl hs;have HS:=Lib.hid hs;clear hs
   gi_wp2
   refine⟨trivial,?_⟩
   gi_wp2
   have ha:=HZ.out;refine⟨((fK.refl _ _).set (.inl<|by omega) _).set (.inl<|by omega) _,((Below.refl _ _).set (by omega) _).set (by omega) _,?_,by simp;omega,(h3.setOther (by omega) _).setOther (by omega) _,?_,?_,(h6.set (by omega) _).set (by omega) _⟩
   .rw[List.map_append];exact HX.out
   .have:=(h4.set<|.int .i64<|(pre.length:Int)+1).setOther (c:=w.heap.size+1+1) (by omega)<|.bool true;simpa using this
   .rw[List.map_append];have:=(h5.setOther (c:=w.heap.size+1) (by omega)<|.int .i64<|(pre.length:Int)+1).set<|.bool true;simpa [pc,HS.out] using this
  have hq:=gH hs;by_cases hj:bR (S x)=true
  .have HX:=Lib.hid<|HG.out HW.out (by rw[HL.out];omega)<|.inr hj;have HS:=Lib.hid hs;clear hs
   gi_wp2_with (refine⟨trivial,?_⟩;gi_at_call 138;refine(CallsIn.inRound l<|callsIn_wide.2<|kx _ _).mono ?_;rintro e w' ⟨rfl,rfl⟩;rw[hj])
   have ha:=HZ.out;refine⟨((fK.refl _ _).set (.inl<|by omega) _).set (.inl<|by omega) _,((Below.refl _ _).set (by omega) _).set (by omega) _,?_,by simp;omega,(h3.setOther (by omega) _).setOther (by omega) _,?_,?_,(h6.set (by omega) _).set (by omega) _⟩
   .rw[List.map_append];exact HX.out
   .have:=(h4.set<|.int .i64<|(pre.length:Int)+1).setOther (c:=w.heap.size+1+1) (by omega)<|.bool false;simpa using this
   .rw[List.map_append];have:=(h5.setOther (c:=w.heap.size+1) (by omega)<|.int .i64<|(pre.length:Int)+1).set<|.bool false;have e2:pc (List.map S pre++List.map S [x])=false:=by have h:=HS.out;simp only[pc,List.map_cons,List.map_nil,List.getLast?_concat];simpa using h
    rw[e2];exact this
  .have hl :bR (S x)=false:=by simpa using hj
   have HX:=Lib.hid<|HB.out<|.inr<|.inr ⟨hs,hl⟩;clear hs hj
   gi_wp2_with (refine⟨trivial,?_⟩;gi_at_call 138;refine(CallsIn.inRound l<|callsIn_wide.2<|kx _ _).mono ?_;rintro e w' ⟨rfl,rfl⟩;rw[hl])
   have ha:=HZ.out;refine⟨(((fK.refl _ _).set (.inl<|by omega) _).set (.inl<|by omega) _).set (.inl<|by omega) _,rfl,?_,((h3.setOther (by omega) _).setOther (by omega) _).set _,((h6.set (by omega) _).set (by omega) _).set (by omega) _⟩;intro ls;rw[List.map_append,List.append_assoc];exact HX.out ls
 case done =>
  rintro W hz ⟨h1,h2,h3,h4,h5,h6⟩ hK;have c3:=h3.cell;have f3:=h3.frozen;have HK:=Lib.hid hK;have H1:=Lib.hid h1;have HZ:=Lib.hid ha;clear hK h1 ha hh
  gi_wp2
  have ha:=HZ.out;refine⟨by simp,.inl ⟨_,_,rfl,run_takeDeferred<|od _ (by omega) HK.out,?_⟩⟩;have hc:=((h3.set<|.bool true).jU (l:=W0.heap.size) (by omega)<|.deferred none).cell;refine⟨.bool true,?_,?_⟩
  .simp[results,Tryz.results87,go_sem,hc]
  .have e1:List.map S (List.map mk<|back<|S t)=back (S t):=by simp[List.map_map,Function.comp_def]
   have h1:=H1.out [];rw[e1,List.append_nil]at h1;rw[HV.out,h1];exact⟨rfl,(h6.set (by omega) _).put (by omega) _⟩
 case stop =>
  rintro c pre W hp hz ⟨rfl,h2,h3,h4⟩ hK;have HZ:=Lib.hid ha;clear ha hh
  gi_wp2
  have ha:=HZ.out;refine⟨by simp,.inl ⟨_,_,rfl,run_takeDeferred hK,?_⟩⟩;have hc:=(h3.jU (l:=W0.heap.size) (by omega)<|.deferred none).cell;refine⟨.bool false,?_,?_⟩
  .simp[results,Tryz.results87,go_sem,hc]
  .obtain⟨ls,hG⟩:=hp;have e1:back (S t)=List.map S pre++List.map S ls:=by
    rw[<- List.map_append,hG];simp[List.map_map,Function.comp_def]
   rw[HV.out,e1,h2];exact⟨rfl,h4.put (by omega) _⟩
end Go.Proofs.YtjojkakjmoefaaaGreatDoor

namespace Go.Proofs.YtjojkakjmoefaaaGreatDoor
def iR(s:Bs):Bs×Int:=if aR s=true then(if s=[46]then([],4)else(fg s,0))else([],11)
def bD(s z:Bs):Bool×Int:=if aR s=true/\aR z=true then(bd s z,0)else(false,11)
def dE(a b:Bs):Int×Int:=if aR a=true/\aR b=true then(bl a b,0)else(0,11)
def Ij(s:Bs):(Go.Lib.indexByte s 46= -1/\(46:UInt8) ∉ s)\/(∃i:Nat,i<s.length/\Go.Lib.indexByte s 46=i/\(46:UInt8) ∉ s.take i/\s=s.take i++46::s.drop (i+1)):=by
 induction s with
 |nil=>left;simp[Go.Lib.indexByte]
 |cons c s J =>
  unfold Go.Lib.indexByte;by_cases j:c=46
  .right
   exact⟨0,by simp,by simp[j],by simp,by simp[j]⟩
  .have D :(c==46)=false:=by simpa using j
   rcases J with ⟨h,G⟩|⟨i,K,h,G,I⟩
   .left
    refine⟨by simp[D,h],?_⟩;simp only[List.mem_cons,not_or];exact⟨λe=>j e.symm,G⟩
   .right
    have H:((Go.Lib.indexByte s 46)== -1)=false:=by rw[h];simp
    refine⟨i+1,by simp;omega,by simp only[D,eV,if_false];rw[H];simp[h],?_,?_⟩
    .simp only[List.take_succ_cons,List.mem_cons,not_or];exact⟨λe=>j e.symm,G⟩
    .simp only[List.take_succ_cons,List.cons_append,List.drop_succ_cons];rw[<- I]
def KX{s:Bs}(h0:s≠[46])(h:(46:UInt8) ∉ s):fg s=[46]:=by
 unfold fg cu;rw[if_neg h0,kA s h];rfl
def KY{s:Bs}{i:Nat}(h0:s≠[46])(j:(46:UInt8) ∉ s.take i)(D:s=s.take i++46::s.drop (i+1)):fg s=s.drop (i+1):=by
 unfold fg cu;have e:bn s=bn (s.take i)++bn (s.drop<|i+1):=by conv=>lhs;rw[D,kT]
 rw[if_neg h0,e,kA _ j];show nameOf (bn<|s.drop<|i+1)=_
 unfold nameOf;rw[if_neg<|jG _,ir]
def qn{s:Bs}(h:s≠[46]):cu s=bn s:=by unfold cu;rw[if_neg h]
def Ot(s:Bs):bd s s=true:=by rw[gU];exact List.prefix_refl _
def Oq(s:Bs):bd s [46]=true:=by rw[gU];exact List.nil_prefix
def wa{s z:Bs}(N:aR s=true)(K:aR z=true)(G:s≠z)(J:z≠[46]):bd s z=true ↔ ∃p,s=p++46::z:=by
 unfold bd;rw[List.isSuffixOf_iff_suffix,qn J];constructor
 .rintro⟨q,D⟩;have j:s≠[46]:=by
   intro e;subst e;have:cu [46]=[]:=rfl;rw[this]at D;exact jG z (List.append_eq_nil_iff.1 D).2
  rw[qn j]at D;have H:q≠[]:=by
   intro e;subst e;simp only[List.nil_append]at D;exact G (by rw[<- ir s, <- ir z,D])
  refine⟨dB q,?_⟩;rw[<- ir s, <- D,wB q _ H<|jG z,ir]
 .rintro⟨p,hp⟩;have j:s≠[46]:=by
   intro e;rw[e]at hp;have I:z=[]:=by
    have:=congrArg List.length hp;simp at this;exact List.length_eq_zero_iff.1 (by omega)
   subst I
   revert K;decide
  rw[qn j,hp,kT];exact⟨_,rfl⟩
variable {s z:ByteArray}
def Ov(G:aR (S s)=true)(H:aR (S z)=true)(j:S s≠S z)(D:S z≠[46])(h:¬z.size<s.size):bd (S s) (S z)=false:=by
 rw[<- Bool.not_eq_true,wa G H j D];rintro⟨p,hp⟩;have:=congrArg List.length hp;simp only[List.length_append,List.length_cons, <- bY]at this;omega
def Ou(H:aR (S s)=true)(I:aR (S z)=true)(j:S s≠S z)(G:S z≠[46])(h:Go.Lib.hasSuffix s.data.toList z.data.toList=false):bd (S s) (S z)=false:=by
 rw[<- Bool.not_eq_true,wa H I j G];rintro⟨p,hp⟩;have D:Go.Lib.hasSuffix (S s) (S z)=true:=List.isSuffixOf_iff_suffix.2 ⟨p++[46],by rw[hp];simp⟩;rw[show Go.Lib.hasSuffix (S s) (S z)=false from h]at D;exact absurd D (by simp)
def Nz{k:Nat}(h:k<s.size):(S s)[k]? =some s[k]:=Go.Lib.data_getElem? s k h
def Ss(V:aR (S s)=true)(W:aR (S z)=true)(H:S s≠S z)(U:S z≠[46])(h:z.size<s.size)(D:Go.Lib.hasSuffix s.data.toList z.data.toList=true)
 (T:s.size-z.size-1<s.size):bd (S s) (S z)=((s[s.size-z.size-1].toNat:Int)==46):=by
 obtain⟨p,hp⟩:=List.isSuffixOf_iff_suffix.1 D;have hp:p++S z=S s:=hp;have X:p.length=s.size-z.size:=by
  have:=congrArg List.length hp;simp only[List.length_append, <- bY]at this;omega
 have j:=Nz T;rw[<- hp,dm<|by omega]at j;have N:(((s[s.size-z.size-1].toNat:Int))=46) ↔ s[s.size-z.size-1]=46:=by
  constructor
  .intro e;exact UInt8.toNat_inj.1 (by simp;omega)
  .intro e;rw[e];rfl
 rw[Bool.eq_iff_iff,wa V W H U,beq_iff_eq,N];constructor
 .rintro⟨q,J⟩;rw[<- hp]at J;have I:p=q++[46]:=(List.append_left_inj<|S z).1 (by rw[J];simp);have K:q.length=s.size-z.size-1:=by have:=congrArg List.length I;simp at this;omega
  rw[I,cL<|by omega,K]at j;simp at j;exact j.symm
 .intro e;rw[e]at j;refine⟨p.take<|s.size-z.size-1,?_⟩;obtain⟨G,j⟩:=aA.1 j;have:p=p.take (s.size-z.size-1)++[46]:=by
   conv=>lhs;rw[<- List.take_append_drop (s.size-z.size-1) p]
   rw[List.drop_eq_getElem_cons G,j,List.drop_of_length_le<|by omega]
  rw[<- hp];conv=>lhs;rw[this]
  simp
end Go.Proofs.YtjojkakjmoefaaaGreatDoor

namespace Go.Proofs.YtjojkakjmoefaaaGreatDoor
open Go.RowKit Go.Shelf
def Nf(s:ByteArray)(w:World) :
 Calls Tryz.prog 40 #[.string s] w λe w' =>e= .returned (.bool<|aR<|S s)/\Below w.heap.size w w' :=by
 go_enter Tryz.func40,Tryz.ntmps40
 go_wp2_with (go_at_call 87;refine(cG _ _).mono ?_;rintro e w' ⟨rfl,hb⟩)
 go_ret
 exact⟨rfl,hb⟩
def IW(s:ByteArray)(w:World) :
 Calls Tryz.prog 141 #[.string s] w λe w' =>e= .returned (.tuple #[.string<|mk (iR<|S s).1,.int .i64 (iR<|S s).2])/\Below w.heap.size w w' :=by
 by_cases hv:aR (S s)=true
 .by_cases h0:S s=[46]
  .have HR:Hid<|iR (S s)=([],4):=by unfold Hid iR;rw[if_pos hv,if_pos h0]
   have hq:=kD h0;clear h0
   go_enter Tryz.func141,Tryz.ntmps141
   go_wp2_with (go_at_call 87;refine(cG _ _).mono ?_;rintro e w' ⟨rfl,hb⟩;rw[hv])
   go_ret2
   rw[HR.out];exact⟨rfl,hb⟩
  .have hq:=gH h0;have hR:iR (S s)=(fg<|S s,0):=by unfold iR;rw[if_pos hv,if_neg h0]
   have hA:=gE hv;rw[<- bY]at hA;rcases Ij (S s)with ⟨hi,hn⟩|⟨i,ho,hi,hn,hs⟩
   .rw[KX h0 hn]at hR;have HR:=Lib.hid hR;have HI:=Lib.hid hi;clear hR hi hn h0
    go_enter Tryz.func141,Tryz.ntmps141
    go_wp2_with (first|(go_at_call 87;refine(cG _ _).mono ?_;rintro e w' ⟨rfl,hb⟩;rw[hv])|(go_at_call 195;refine(Tryz.strings_IndexByte _ _ _).mono ?_;rintro e w' ⟨rfl,rfl⟩;rw[show Lib.indexByte s.data.toList ((46:Int).toNat.toUInt8)= -1 from HI.out]))
    go_ret2
    rw[HR.out];exact⟨rfl,hb⟩
   .rw[KY h0 hn hs]at hR;have HR:=Lib.hid hR;have HI:=Lib.hid hi;rw[<- bY]at ho;have hI:i+1<=s.size:=ho;clear hR hi hn h0 hs
    go_enter Tryz.func141,Tryz.ntmps141
    go_wp2_with (first|(go_at_call 87;refine(cG _ _).mono ?_;rintro e w' ⟨rfl,hb⟩;rw[hv])|(go_at_call 195;refine(Tryz.strings_IndexByte _ _ _).mono ?_;rintro e w' ⟨rfl,rfl⟩;rw[show Lib.indexByte s.data.toList ((46:Int).toNat.toUInt8)=i from HI.out]))
    go_ret2
    rw[HR.out];refine⟨?_,hb⟩;have e1:mk ((S s).drop<|i+1)=s.extract (i+1) s.size:=by
     apply Ar;rw[S_mk,lP,bY,List.take_of_length_le<|by simp]
    rw[e1];rfl
 .have hC :aR (S s)=false:=by simpa using hv
  have HR:Hid<|iR (S s)=([],11):=by unfold Hid iR;rw[if_neg hv]
  clear hv
  go_enter Tryz.func141,Tryz.ntmps141
  go_wp2_with (go_at_call 87;refine(cG _ _).mono ?_;rintro e w' ⟨rfl,hb⟩;rw[hC])
  go_ret2
  rw[HR.out];exact⟨rfl,hb⟩
def Nd(s z:ByteArray)(w:World) :
 Calls Tryz.prog 136 #[.string s,.string z] w λe w' =>e= .returned (.tuple #[.bool (bD (S s)<|S z).1,.int .i64 (bD (S s)<|S z).2])/\Below w.heap.size w w' :=by
 by_cases hv:aR (S s)=true
 rotate_left
 .have hC :aR (S s)=false:=by simpa using hv
  have HR:Hid<|bD (S s) (S z)=(false,11):=by unfold Hid bD;rw[if_neg λh=>hv h.1]
  clear hv
  go_enter Tryz.func136,Tryz.ntmps136
  go_wp2_with (go_at_call 87;refine(cG _ _).mono ?_;rintro e w' ⟨rfl,hb⟩;rw[hC])
  go_ret2
  rw[HR.out];exact⟨rfl,hb⟩
 by_cases hz:aR (S z)=true
 rotate_left
 .have hL :aR (S z)=false:=by simpa using hz
  have HR:Hid<|bD (S s) (S z)=(false,11):=by unfold Hid bD;rw[if_neg λh=>hz h.2]
  clear hz
  go_enter Tryz.func136,Tryz.ntmps136
  go_wp2_with fail
  refine(cG _ _).mono ?_;rintro e w1 ⟨rfl,hb⟩;rw[hv]
  go_wp2_with fail
  refine(cG _ _).mono ?_;rintro e w2 ⟨rfl,hd⟩;rw[hL]
  go_wp2
  go_ret2
  rw[HR.out];exact⟨rfl,hb.trans<|hd.mono hb.size⟩
 have hR:bD (S s) (S z)=(bd (S s)<|S z,0):=by unfold bD;rw[if_pos ⟨hv,hz⟩]
 have h1:=gE hv;have h2:=gE hz;rw[<- bY]at h1 h2;by_cases he:S s=S z
 .have hq:(s.toList==z.toList)=true:=by rw[eU,eU,he];simp
  have HR:Hid<|bD (S s) (S z)=(true,0):=by unfold Hid;rw[hR,he,Ot]
  clear hR he
  go_enter Tryz.func136,Tryz.ntmps136
  go_wp2_with fail
  refine(cG _ _).mono ?_;rintro e w1 ⟨rfl,hb⟩;rw[hv]
  go_wp2_with fail
  refine(cG _ _).mono ?_;rintro e w2 ⟨rfl,hd⟩;rw[hz]
  go_wp2
  go_ret2
  rw[HR.out];exact⟨rfl,hb.trans<|hd.mono hb.size⟩
 have hq:(s.toList==z.toList)=false:=by rw[eU,eU];simpa using he
 by_cases hr:S z=[46]
 .have hJ:=kD hr;have HR:Hid<|bD (S s) (S z)=(true,0):=by unfold Hid;rw[hR,hr,Oq]
  clear hR he hr
  go_enter Tryz.func136,Tryz.ntmps136
  go_wp2_with fail
  refine(cG _ _).mono ?_;rintro e w1 ⟨rfl,hb⟩;rw[hv]
  go_wp2_with fail
  refine(cG _ _).mono ?_;rintro e w2 ⟨rfl,hd⟩;rw[hz]
  go_wp2
  go_ret2
  rw[HR.out];exact⟨rfl,hb.trans<|hd.mono hb.size⟩
 have hJ:=gH hr;by_cases ho:z.size<s.size
 rotate_left
 .have HR:Hid<|bD (S s) (S z)=(false,0):=by unfold Hid;rw[hR,Ov hv hz he hr ho]
  clear hR he hr
  go_enter Tryz.func136,Tryz.ntmps136
  go_wp2_with fail
  refine(cG _ _).mono ?_;rintro e w1 ⟨rfl,hb⟩;rw[hv]
  go_wp2_with fail
  refine(cG _ _).mono ?_;rintro e w2 ⟨rfl,hd⟩;rw[hz]
  go_wp2
  go_ret2
  rw[HR.out];exact⟨rfl,hb.trans<|hd.mono hb.size⟩
 have hk:s.size-z.size-1<s.size:=by omega
 have hN:(0:Int)<=(s.size:Int)-z.size-1:=by omega
 by_cases hf:Lib.hasSuffix s.data.toList z.data.toList=true
 rotate_left
 .have hg :Lib.hasSuffix s.data.toList z.data.toList=false:=by simpa using hf
  have HR:Hid<|bD (S s) (S z)=(false,0):=by unfold Hid;rw[hR,Ou hv hz he hr hg]
  have HS:=Lib.hid hg;clear hR he hr hf hg
  go_enter Tryz.func136,Tryz.ntmps136
  go_wp2_with fail
  refine(cG _ _).mono ?_;rintro e w1 ⟨rfl,hb⟩;rw[hv]
  go_wp2_with fail
  refine(cG _ _).mono ?_;rintro e w2 ⟨rfl,hd⟩;rw[hz]
  go_wp2_with (go_at_call 193;refine(Tryz.strings_HasSuffix _ _ _<|by omega).mono ?_;rintro e w' ⟨rfl,rfl⟩;rw[HS.out])
  go_ret2
  rw[HR.out];exact⟨rfl,hb.trans<|hd.mono hb.size⟩
 .have HR:Hid<|bD (S s) (S z)=(((s[s.size-z.size-1].toNat:Int)==46),0):=by unfold Hid;rw[hR,Ss hv hz he hr ho hf hk]
  have HS:=Lib.hid hf;clear hR he hr hf
  go_enter Tryz.func136,Tryz.ntmps136
  go_wp2_with fail
  refine(cG _ _).mono ?_;rintro e w1 ⟨rfl,hb⟩;rw[hv]
  go_wp2_with fail
  refine(cG _ _).mono ?_;rintro e w2 ⟨rfl,hd⟩;rw[hz]
  go_wp2_with (go_at_call 193;refine(Tryz.strings_HasSuffix _ _ _<|by omega).mono ?_;rintro e w' ⟨rfl,rfl⟩;rw[HS.out])
  trace_state
  go_ret2
  rw[HR.out];exact⟨rfl,hb.trans<|hd.mono hb.size⟩
end Go.Proofs.YtjojkakjmoefaaaGreatDoor

namespace Go.Proofs.YtjojkakjmoefaaaGreatDoor
open Go.RowKit
structure iD(a b:Nat)(W W' :World):Prop where
 os:W'.os=W.os
 tape:W'.tape=W.tape
 output:W'.output=W.output
 size:W'.heap.size=W.heap.size
 block:∀k,k≠a->k≠b->W'.heap[k]? =W.heap[k]?
def iD.refl(a b:Nat)(W:World):iD a b W W:=⟨rfl,rfl,rfl,rfl,λ_ _ _=>rfl⟩
variable {a b:Nat}{W:World}
def iD.acn{A:World}(h:iD a b A W)(v:Value):iD a b A (W.setCell ⟨a,0,none⟩ v) :=
 ⟨h.os,h.tape,h.output,by rw[<- h.size];simp[World.setCell],λk h1 j=>(Below.heap_setCell W ⟨a,0,none⟩ v k h1).trans<|h.block k h1 j⟩
def iD.aco{A:World}(h:iD a b A W)(v:Value):iD a b A (W.setCell ⟨b,0,none⟩ v) :=
 ⟨h.os,h.tape,h.output,by rw[<- h.size];simp[World.setCell],λk h1 j=>(Below.heap_setCell W ⟨b,0,none⟩ v k j).trans<|h.block k h1 j⟩
variable {W':World}
def iD.below{j:Nat}(h:iD a b W W')(D:j<=a)(G:j<=b):Below j W W' :=
 ⟨h.os,h.tape,h.output,Nat.le_of_eq h.size.symm,λk H=>h.block k (by omega)<|by omega⟩
def iD.aci{d:Nat}(h:iD a b W W')(j:a<d)(D:b<d):fK d W W' :=
 ⟨h.block d (by omega)<|by omega,h.block (d+1) (by omega)<|by omega⟩
def iD.boxed{k:Nat}{t:TypeId}{v:Value}(h:iD a b W W')(D:Boxed W k t v)(h1:k≠a)(j:k≠b):Boxed W' k t v:=(h.block k h1 j).trans D
def yE(I J:TypeId)(W:World)(G H:Nat)(D:List ByteArray):Prop :=
 ∃(m:Bool) (j:ByteArray),Boxed W G I (.bool m)/\Boxed W H J (.string j)/\j.size<=140737488355328/\((m=false/\D=[])\/(m=true/\D=((bn<|S j).reverse).map mk))
def yE.Rn{I J:TypeId}{D G:Nat}{H:List ByteArray}(h:yE I J W D G H)(T:W'.heap[D]? =W.heap[D]?)(U:W'.heap[G]? =W.heap[G]?):yE I J W' D G H:=by
 obtain⟨m,j,h1,K,N⟩:=h;exact⟨m,j,T.trans h1,U.trans K,N⟩
def Vy(I J:TypeId)(D G:Nat)(H:List ByteArray)(W:World)(e:Ending)(j :World):Prop :=
 (H=[]/\e= .returned (.tuple #[.string<|mk [],.bool false])/\W=j) \/
 (∃x t,H=x::t/\e= .returned (.tuple #[.string x,.bool true])/\yE I J j D G t/\iD D G W j)
end Go.Proofs.YtjojkakjmoefaaaGreatDoor

namespace Go.Proofs.YtjojkakjmoefaaaGreatDoor
open Go.RowKit Go.Shelf
def Lg(t:ByteArray)(ht:t.size<=140737488355328)(w:World) :
 Calls Tryz.prog 207 #[.string t] w λe w' =>e= .returned (.func (.func 225) #[] #[.pointer<|some ⟨w.heap.size+1,0,none⟩,.pointer<|some ⟨w.heap.size,0,none⟩]) /\
  yE 4 9 w' (w.heap.size+1) w.heap.size ((back<|S t).map mk)/\Below w.heap.size w w' /\w'.heap.size=w.heap.size+2:=by
 have key:∀(m:Bool),((m=false/\S t=[46])\/(m=true/\ ¬S t=[46]))->yE 4 9 ((w.alloc<|.cells #[.string t] 9).alloc<|.cells #[.bool m] 4) (w.heap.size+1) w.heap.size ((back<|S t).map mk):=by
  intro m hm;have h1:=Boxed.new (w.alloc<|.cells #[.string t] 9) 4<|.bool m;rw[World.size_alloc]at h1;refine⟨m,t,h1,(Boxed.new w _ _).alloc _,ht,?_⟩;rcases hm with ⟨rfl,h⟩|⟨rfl,h⟩
  .exact .inl ⟨rfl,by simp[back,h]⟩
  .exact .inr ⟨rfl,by simp[back,h]⟩
 by_cases hr:S t=[46]
 .have hq:=kD hr;have HK:=Lib.hid<|key false<|.inl ⟨rfl,hr⟩;clear key hr
  go_enter Tryz.func207,Tryz.ntmps207
  go_wp2
  go_ret
  exact⟨rfl,HK.out,((Below.refl _ w).alloc (Nat.le_refl _) _).alloc (by simp) _,by simp⟩
 .have hq:=gH hr;have HK:=Lib.hid<|key true<|.inr ⟨rfl,hr⟩;clear key hr
  go_enter Tryz.func207,Tryz.ntmps207
  go_wp2
  go_ret
  exact⟨rfl,HK.out,((Below.refl _ w).alloc (Nat.le_refl _) _).alloc (by simp) _,by simp⟩
def Rq(bm br:Nat)(hF:bm≠br)(ls:List ByteArray)(W:World)(h:yE 4 9 W bm br ls) :
 Calls Tryz.prog 225 #[.pointer<|some ⟨bm,0,none⟩,.pointer<|some ⟨br,0,none⟩] W (Vy 4 9 bm br ls W):=by
 obtain⟨m,rest,h1,h2,ha,⟨rfl,rfl⟩|⟨rfl,rfl⟩⟩:=h
 .have c1:=h1.cell
  go_enter Tryz.func225,Tryz.ntmps225
  go_wp2
  go_ret2
  exact .inl ⟨rfl,rfl,rfl⟩
 .have c1:=h1.cell;have c2:=h2.cell;have f1:=h1.frozen;have f2:=h2.frozen;rcases zD rest with ⟨hi,hy⟩|⟨i,hB,hi,hy⟩
  .have HI:=Lib.hid hi;have HE:Hid<|((bn<|S rest).reverse).map mk=[rest]:=by unfold Hid;rw[hy];simp
   have hz:rest.extract 0 rest.size=rest:=by apply Ar;rw[lP,bY];simp
   clear hi hy
   go_enter Tryz.func225,Tryz.ntmps225
   go_wp2_with (go_at_call 194;refine(Tryz.strings_LastIndexByte _ _ (by omega) _).mono ?_;rintro e w' ⟨rfl,rfl⟩;rw[HI.out])
   go_ret2
   rw[HE.out];exact .inr ⟨rest,[],rfl,rfl,⟨false,rest,h1.set _,h2.setOther (Ne.symm hF) _,ha,.inl ⟨rfl,rfl⟩⟩,(iD.refl bm br _).acn _⟩
  .have HI:=Lib.hid hi;have HE:Hid<|((bn<|S rest).reverse).map mk=rest.extract (i+1) rest.size::((bn<|S<|rest.extract 0 i).reverse).map mk:=by unfold Hid;rw[hy];simp
   have hM:i+1<=rest.size:=hB;have HX:Hid<|(rest.extract 0 i).size=i:=by unfold Hid;rw[bY,lP,List.length_take,List.length_drop, <- bY];omega
   clear hi hy
   go_enter Tryz.func225,Tryz.ntmps225
   go_wp2_with (go_at_call 194;refine(Tryz.strings_LastIndexByte _ _ (by omega) _).mono ?_;rintro e w' ⟨rfl,rfl⟩;rw[HI.out])
   go_ret2
   rw[HE.out];exact .inr ⟨_,_,rfl,rfl,⟨true,rest.extract 0 i,h1.setOther hF _,h2.set _,by rw[HX.out];omega,.inr ⟨rfl,rfl⟩⟩,(iD.refl bm br _).aco _⟩
