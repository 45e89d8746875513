/-
  Merged texts.
-/
import Derived.Test.YtodofogcincleaaGreatDoorNaM
import Derived.Test.YtodofogcincleaaGreatDoorNbM
set_option linter.all false
set_option maxHeartbeats 1000000
namespace Go.Proofs.YtodofogcincleaaGreatDoor
def mT(pre:List Bs):Bool:=pre.getLast? ==some [42]
def vst(pre:List Bs):Prop:= ∀ls,vgo false 0 (pre++ls)=vgo (mT pre) pre.length ls
theorem Tz:vst []:=λ_=>rfl
theorem Rw{pre:List Bs}{x:Bs}(h:vst pre)(hw:mT pre=false)(hc:pre.length+1<=8)(hx:x=[42]\/bY x=true):vst (pre++[x]):=by
 intro ls;rw[List.append_assoc,h];show vgo (mT pre) pre.length (x::ls)=_
 rw[vgo,hw,if_neg (by simp;omega),if_neg (by simp;exact λhn=>hx.resolve_left hn)];simp[mT]
theorem Ty{pre:List Bs}{x:Bs}(h:vst pre)(hb:mT pre=true\/8<pre.length+1\/(¬x=[42]/\bY x=false))(ls:List Bs):vgo false 0 (pre++x::ls)=false:=by
 rw[h,vgo];rcases hb with hb|hb|⟨h1,h2⟩
 .simp[hb]
 .simp[hb]
 .by_cases hg:mT pre=true\/8<pre.length+1
  .simp[hg]
  .rw[if_neg (by simpa using hg),if_pos (by simp[h1,h2])]
end Go.Proofs.YtodofogcincleaaGreatDoor
namespace Go.Proofs.YtodofogcincleaaGreatDoor
open Go.RowKit Go.Shelf
attribute [local go_sem] Oper.semAt_some
theorem Bp(s:ByteArray)(h:S s=[46]):bq (S s)=true:=by simp[bq,h]
theorem Bo(s:ByteArray)(h0:¬S s=[46])(h:60<s.size):bq (S s)=false:=by
 have:¬(S s).length<=60:=by rw[<- cr];omega
 simp[bq,h0,this]
theorem Rr(s:ByteArray)(h0:¬S s=[46])(h:¬60<s.size):bq (S s)=vgo false 0 (back (S s)):=by
 have:(S s).length<=60:=by rw[<- cr];omega
 simp[bq,h0,this]
def vI(w:World)(b:Nat)(pre:List ByteArray)(W:World):Prop :=
 vst (pre.map S)/\pre.length<=8/\Boxed W b 4 (.bool false)/\Boxed W (b+1) 3 (.int .i64 pre.length)/\Boxed W (b+1+1) 4 (.bool (mT (pre.map S)))/\Below w.heap.size w W
def vX(w:World)(b:Nat)(c:Code)(pre:List ByteArray)(W:World):Prop :=
 c= .ret/\(∀ls,vgo false 0 (pre.map S++ls)=false)/\Boxed W b 4 (.bool false)/\Below w.heap.size w W
theorem Tv{w:World}{d:Nat}{pre:List ByteArray}{A B:World}(h:vI w w.heap.size pre A)(hd:d=w.heap.size+3)(hz:d+2<=A.heap.size)(hk:dV d A B):vI w w.heap.size pre B:=by
 obtain⟨h1,h2,h3,h4,h5,h6⟩:=h;exact⟨h1,h2,h3.ix hk (by omega),h4.ix hk (by omega),h5.ix hk (by omega),h6.trans (hk.below (by omega) (by omega))⟩
theorem Tw{w:World}{d:Nat}{c:Code}{pre:List ByteArray}{A B:World}(h:vX w w.heap.size c pre A)(hd:d=w.heap.size+3)(hz:d+2<=A.heap.size)(hk:dV d A B):vX w w.heap.size c pre B:=by
 obtain⟨h1,h2,h3,h4⟩:=h;exact⟨h1,h2,h3.ix hk (by omega),h4.trans (hk.below (by omega) (by omega))⟩
theorem cE(t:ByteArray)(w:World) :
 Calls Tryz.prog 136 #[.string t] w λe w' =>e= .returned (.bool (bq (S t)))/\Below w.heap.size w w' :=by
 refine(callsIn_wide (n:=3)).1 ?_;refine callsIn_of_wp_marks Tryz.func136 rfl trivial ?_ rfl;simp only[Tryz.ntmps136,List.size_toArray,List.length_cons,List.length_nil,Nat.reduceAdd,Nat.reduceSub,Array.replicate_succ,Array.replicate_zero,List.push_toArray,List.append_toArray,List.nil_append,List.cons_append];by_cases hr:S t=[46]
 .have HV:=Lib.hid (Bp t hr);have hq:=kr hr;clear hr
  gi_wp2
  refine⟨.bool true,?_,?_⟩
  .simp[results,Tryz.results136,go_sem]
  .rw[HV.out];exact⟨rfl,(Below.refl _ _).alloc (Nat.le_refl _) _⟩
 by_cases hF:60<t.size
 .have HV:=Lib.hid (Bo t hr hF);have hq:=gD hr;clear hr
  gi_wp2
  refine⟨.bool false,?_,?_⟩
  .simp[results,Tryz.results136,go_sem]
  .rw[HV.out];exact⟨rfl,(Below.refl _ _).alloc (Nat.le_refl _) _⟩
 have HV:=Lib.hid (Rr t hr hF);have hq:=gD hr;have d60:decide ((60:Int)<t.size)=false:=by simp;omega
 clear hr
 gi_wp2
 obtain⟨W0,hA⟩:∃W0,(((w.alloc (Obj.cells #[Value.bool false] 4)).alloc (Obj.cells #[Value.int IntKind.i64 0] 3)).alloc (Obj.cells #[Value.bool false] 4))=W0:=⟨_,rfl⟩
 have hf:W0.heap.size=w.heap.size+3:=by rw[<- hA];simp
 have hM:vI w w.heap.size [] W0:=by
  refine⟨Tz,by simp,?_,?_,?_,?_⟩
  .rw[<- hA];exact((Boxed.new w _ _).alloc _).alloc _
  .rw[<- hA];have:=(Boxed.new (w.alloc (Obj.cells #[Value.bool false] 4)) 3 (Value.int IntKind.i64 0)).alloc (Obj.cells #[Value.bool false] 4);rw[World.size_alloc]at this;exact this
  .rw[<- hA];have:=(Boxed.new ((w.alloc (Obj.cells #[Value.bool false] 4)).alloc (Obj.cells #[Value.int IntKind.i64 0] 3)) 4 (Value.bool false))
   rw[World.size_alloc,World.size_alloc]at this;exact this
  .rw[<- hA];exact(((Below.refl _ w).alloc (Nat.le_refl _) _).alloc (by simp) _).alloc (by simp;omega) _
 rw[hA];refine sM (gf:=198) (first:= #[.string t]) (lb:= #[]) rfl (enters_of Tryz.func198 (by kernel_rfl) rfl) (yH t (by omega) w.heap.size W0) (by omega) (λA B h=>h ▸ Below.refl _ _) (λ_=>rfl)
  (vI w w.heap.size) (vX w w.heap.size) (λpre A B h hz hk=>Tv h hf hz hk) (λc pre A B h hz hk=>Tw h hf hz hk)
  (λW hk=>?start)
  (fun x => { tmps := #[Value.string t, undef, Value.pointer (some ⟨w.heap.size, 0, none⟩), Value.pointer (some ⟨w.heap.size + 1, 0, none⟩), Value.pointer (some ⟨w.heap.size + 1 + 1, 0, none⟩), .string x, Value.string t, Value.bool false,
        Value.string t,Value.int IntKind.i64 ↑t.size,Value.bool false,Value.string t,Value.func (Fn.func 198) #[Value.string t] #[],.string x,undef,undef,undef,undef,undef,undef,undef,undef,undef,undef,undef,undef,undef,undef,undef,undef],defers:=[]}) ?assign ?body ?done ?stop
 case start =>
  obtain⟨h1,h2,h3,h4,h5,h6⟩:=hM;exact⟨h1,h2,h3.ix hk (by omega),h4.ix hk (by omega),h5.ix hk (by omega),h6.trans (hk.below (by omega) (by omega))⟩
 case assign =>
  intro l x W K hK
  gi_wp2
  exact hK
 case body =>
  rintro l pre x post W hx hz ⟨h1,h2,h3,h4,h5,h6⟩;clear hx hM hq d60 hA HV;have c3:=h3.cell;have f3:=h3.frozen;have c4:=h4.cell;have f4:=h4.frozen;have c5:=h5.cell;have f5:=h5.frozen;have HB:=Lib.hid (λhb=>Ty (x:=S x) h1 hb);have HG:=Lib.hid (λhw hc hx=>Rw (x:=S x) h1 hw hc hx);have HL:Hid ((pre.map S).length=pre.length):=by simp[Hid]
  have HZ:=Lib.hid hf;clear h1 hf;by_cases hw:mT (pre.map S)=true
  .rw[hw]at c5 h5;have HX:=Lib.hid (HB.out (.inl hw));clear hw
   gi_wp2
   have hf:=HZ.out;refine⟨((fq.refl _ _).set (.inl (by omega)) _).set (.inl (by omega)) _,rfl,?_,(h3.setOther (by omega) _).set _,(h6.set (by omega) _).set (by omega) _⟩;intro ls;rw[List.map_append,List.append_assoc];exact HX.out ls
  have hL :mT (pre.map S)=false:=by simpa using hw
  rw[hL]at c5 h5;have HW:=Lib.hid hL;clear hw hL;by_cases hc:8<pre.length+1
  .have HX:=Lib.hid (HB.out (.inr (.inl (by rw[HL.out];exact hc))))
   gi_wp2
   have hf:=HZ.out;refine⟨((fq.refl _ _).set (.inl (by omega)) _).set (.inl (by omega)) _,rfl,?_,(h3.setOther (by omega) _).set _,(h6.set (by omega) _).set (by omega) _⟩;intro ls;rw[List.map_append,List.append_assoc];exact HX.out ls
  have dc:decide ((8:Int)<(pre.length:Int)+1)=false:=by simp;omega
  by_cases hs:S x=[42]
  .have hq:=kr hs;have HX:=Lib.hid (HG.out HW.out (by rw[HL.out];omega) (.inl hs));have HS:=Lib.hid hs;clear hs
   gi_wp2
   refine⟨trivial,?_⟩
   gi_wp2
   have hf:=HZ.out;refine⟨((fq.refl _ _).set (.inl (by omega)) _).set (.inl (by omega)) _,((Below.refl _ _).set (by omega) _).set (by omega) _,?_,by simp;omega,(h3.setOther (by omega) _).setOther (by omega) _,?_,?_,(h6.set (by omega) _).set (by omega) _⟩
   .rw[List.map_append];exact HX.out
   .have:=(h4.set (.int .i64 ((pre.length:Int)+1))).setOther (c:=w.heap.size+1+1) (by omega) (.bool true);simpa using this
   .rw[List.map_append];have:=(h5.setOther (c:=w.heap.size+1) (by omega) (.int .i64 ((pre.length:Int)+1))).set (.bool true);simpa [mT,HS.out] using this
  have hq:=gD hs;by_cases hB:bY (S x)=true
  .have HX:=Lib.hid (HG.out HW.out (by rw[HL.out];omega) (.inr hB));have HS:=Lib.hid hs;clear hs
   gi_wp2_with (refine⟨trivial,?_⟩;gi_at_call 199;refine(CallsIn.inRound l (callsIn_wide.2 (uW _ _))).mono ?_;rintro e w' ⟨rfl,rfl⟩;rw[hB])
   have hf:=HZ.out;refine⟨((fq.refl _ _).set (.inl (by omega)) _).set (.inl (by omega)) _,((Below.refl _ _).set (by omega) _).set (by omega) _,?_,by simp;omega,(h3.setOther (by omega) _).setOther (by omega) _,?_,?_,(h6.set (by omega) _).set (by omega) _⟩
   .rw[List.map_append];exact HX.out
   .have:=(h4.set (.int .i64 ((pre.length:Int)+1))).setOther (c:=w.heap.size+1+1) (by omega) (.bool false);simpa using this
   .rw[List.map_append];have:=(h5.setOther (c:=w.heap.size+1) (by omega) (.int .i64 ((pre.length:Int)+1))).set (.bool false);have e2:mT (List.map S pre++List.map S [x])=false:=by have h:=HS.out;simp only[mT,List.map_cons,List.map_nil,List.getLast?_concat];simpa using h
    rw[e2];exact this
  .have hC :bY (S x)=false:=by simpa using hB
   have HX:=Lib.hid (HB.out (.inr (.inr ⟨hs,hC⟩)));clear hs hB
   gi_wp2_with (refine⟨trivial,?_⟩;gi_at_call 199;refine(CallsIn.inRound l (callsIn_wide.2 (uW _ _))).mono ?_;rintro e w' ⟨rfl,rfl⟩;rw[hC])
   have hf:=HZ.out;refine⟨(((fq.refl _ _).set (.inl (by omega)) _).set (.inl (by omega)) _).set (.inl (by omega)) _,rfl,?_,((h3.setOther (by omega) _).setOther (by omega) _).set _,((h6.set (by omega) _).set (by omega) _).set (by omega) _⟩;intro ls;rw[List.map_append,List.append_assoc];exact HX.out ls
 case done =>
  rintro W hz ⟨h1,h2,h3,h4,h5,h6⟩ hK;have c3:=h3.cell;have f3:=h3.frozen;have HK:=Lib.hid hK;have H1:=Lib.hid h1;have HZ:=Lib.hid hf;clear hK h1 hf hA
  gi_wp2
  have hf:=HZ.out;refine⟨by simp,.inl ⟨_,_,rfl,run_takeDeferred (ov _ (by omega) HK.out),?_⟩⟩;have hc:=((h3.set (.bool true)).kE (l:=W0.heap.size) (by omega) (.deferred none)).cell;refine⟨.bool true,?_,?_⟩
  .simp[results,Tryz.results136,go_sem,hc]
  .have e1:List.map S (List.map mk (back (S t)))=back (S t):=by simp[List.map_map,Function.comp_def]
   have h1:=H1.out [];rw[e1,List.append_nil]at h1;rw[HV.out,h1];exact⟨rfl,(h6.set (by omega) _).put (by omega) _⟩
 case stop =>
  rintro c pre W hp hz ⟨rfl,h2,h3,h4⟩ hK;have HZ:=Lib.hid hf;clear hf hA
  gi_wp2
  have hf:=HZ.out;refine⟨by simp,.inl ⟨_,_,rfl,run_takeDeferred hK,?_⟩⟩;have hc:=(h3.kE (l:=W0.heap.size) (by omega) (.deferred none)).cell;refine⟨.bool false,?_,?_⟩
  .simp[results,Tryz.results136,go_sem,hc]
  .obtain⟨ls,hP⟩:=hp;have e1:back (S t)=List.map S pre++List.map S ls:=by
    rw[<- List.map_append,hP];simp[List.map_map,Function.comp_def]
   rw[HV.out,e1,h2];exact⟨rfl,h4.put (by omega) _⟩
end Go.Proofs.YtodofogcincleaaGreatDoor
namespace Go.Proofs.YtodofogcincleaaGreatDoor
def je(s:Bs):Bs×Int:=if bq s=true then(if s=[46]then([],4)else(dw s,0))else([],11)
def bK(s z:Bs):Bool×Int:=if bq s=true/\bq z=true then(bE s z,0)else(false,11)
def fg(a b:Bs):Int×Int:=if bq a=true/\bq b=true then(bX a b,0)else(0,11)
theorem Dw(s:Bs):(Go.Lib.indexByte s 46= -1/\(46:UInt8) ∉ s)\/(∃i:Nat,i<s.length/\Go.Lib.indexByte s 46=i/\(46:UInt8) ∉ s.take i/\s=s.take i++46::s.drop (i+1)):=by
 induction s with
 |nil=>left;simp[Go.Lib.indexByte]
 |cons c s ih =>
  unfold Go.Lib.indexByte;by_cases hc:c=46
  .right
   exact⟨0,by simp,by simp[hc],by simp,by simp[hc]⟩
  .have hN :(c==46)=false:=by simpa using hc
   rcases ih with ⟨h,hn⟩|⟨i,hi,h,hn,hs⟩
   .left
    refine⟨by simp[hN,h],?_⟩;simp only[List.mem_cons,not_or];exact⟨λe=>hc e.symm,hn⟩
   .right
    have hj:((Go.Lib.indexByte s 46)== -1)=false:=by rw[h];simp
    refine⟨i+1,by simp;omega,by simp only[hN,fR,if_false];rw[hj];simp[h],?_,?_⟩
    .simp only[List.take_succ_cons,List.mem_cons,not_or];exact⟨λe=>hc e.symm,hn⟩
    .simp only[List.take_succ_cons,List.cons_append,List.drop_succ_cons];rw[<- hs]
theorem Gg{s:Bs}(h0:s≠[46])(h:(46:UInt8) ∉ s):dw s=[46]:=by
 unfold dw cF;rw[if_neg h0,jf s h];rfl
theorem Gh{s:Bs}{i:Nat}(h0:s≠[46])(hn:(46:UInt8) ∉ s.take i)(hs:s=s.take i++46::s.drop (i+1)):dw s=s.drop (i+1):=by
 unfold dw cF;have e:ba s=ba (s.take i)++ba (s.drop (i+1)):=by conv=>lhs;rw[hs,jz]
 rw[if_neg h0,e,jf _ hn];show nameOf (ba (s.drop (i+1)))=_
 unfold nameOf;rw[if_neg (iE _),gu]
theorem pV{s:Bs}(h:s≠[46]):cF s=ba s:=by unfold cF;rw[if_neg h]
theorem sJ(s:Bs):bE s s=true:=by rw[kI];exact List.prefix_refl _
theorem IC(s:Bs):bE s [46]=true:=by rw[kI];exact List.nil_prefix
theorem sK{s z:Bs}(hs:bq s=true)(hz:bq z=true)(hj:s≠z)(hr:z≠[46]):bE s z=true ↔ ∃p,s=p++46::z:=by
 unfold bE;rw[List.isSuffixOf_iff_suffix,pV hr];constructor
 .rintro⟨q,hq⟩;have hI:s≠[46]:=by
   intro e;subst e;have:cF [46]=[]:=rfl;rw[this]at hq;exact iE z (List.append_eq_nil_iff.1 hq).2
  rw[pV hI]at hq;have hS:q≠[]:=by
   intro e;subst e;simp only[List.nil_append]at hq;exact hj (by rw[<- gu s, <- gu z,hq])
  refine⟨dB q,?_⟩;rw[<- gu s, <- hq,sY q _ hS (iE z),gu]
 .rintro⟨p,hp⟩;have hI:s≠[46]:=by
   intro e;rw[e]at hp;have hV:z=[]:=by
    have:=congrArg List.length hp;simp at this;exact List.length_eq_zero_iff.1 (by omega)
   subst hV
   revert hz;decide
  rw[pV hI,hp,jz];exact⟨_,rfl⟩
theorem IE{s z:ByteArray}(hs:bq (S s)=true)(hz:bq (S z)=true)(hj:S s≠S z)(hr:S z≠[46])(h:¬z.size<s.size):bE (S s) (S z)=false:=by
 rw[<- Bool.not_eq_true,sK hs hz hj hr];rintro⟨p,hp⟩;have:=congrArg List.length hp;simp only[List.length_append,List.length_cons, <- cr]at this;omega
theorem ID{s z:ByteArray}(hs:bq (S s)=true)(hz:bq (S z)=true)(hj:S s≠S z)(hr:S z≠[46])(h:Go.Lib.hasSuffix s.data.toList z.data.toList=false):bE (S s) (S z)=false:=by
 rw[<- Bool.not_eq_true,sK hs hz hj hr];rintro⟨p,hp⟩;have h2:Go.Lib.hasSuffix (S s) (S z)=true:=List.isSuffixOf_iff_suffix.2 ⟨p++[46],by rw[hp];simp⟩;rw[show Go.Lib.hasSuffix (S s) (S z)=false from h]at h2;exact absurd h2 (by simp)
theorem Hw{s:ByteArray}{k:Nat}(h:k<s.size):(S s)[k]? =some s[k]:=Go.Lib.data_getElem? s k h
theorem LV{s z:ByteArray}(hs:bq (S s)=true)(hz:bq (S z)=true)(hj:S s≠S z)(hr:S z≠[46])(h:z.size<s.size)(hh:Go.Lib.hasSuffix s.data.toList z.data.toList=true)
 (hk:s.size-z.size-1<s.size):bE (S s) (S z)=((s[s.size-z.size-1].toNat:Int)==46):=by
 obtain⟨p,hp⟩:=List.isSuffixOf_iff_suffix.1 hh;have hp:p++S z=S s:=hp;have hl:p.length=s.size-z.size:=by
  have:=congrArg List.length hp;simp only[List.length_append, <- cr]at this;omega
 have hg:=Hw hk;rw[<- hp,cU (by omega)]at hg;have hb:(((s[s.size-z.size-1].toNat:Int))=46) ↔ s[s.size-z.size-1]=46:=by
  constructor
  .intro e;exact UInt8.toNat_inj.1 (by simp;omega)
  .intro e;rw[e];rfl
 rw[Bool.eq_iff_iff,sK hs hz hj hr,beq_iff_eq,hb];constructor
 .rintro⟨q,hq⟩;rw[<- hp]at hq;have e2:p=q++[46]:=(List.append_left_inj (S z)).1 (by rw[hq];simp);have e3:q.length=s.size-z.size-1:=by have:=congrArg List.length e2;simp at this;omega
  rw[e2,cL (by omega),e3]at hg;simp at hg;exact hg.symm
 .intro e;rw[e]at hg;refine⟨p.take (s.size-z.size-1),?_⟩;obtain⟨hD,hg⟩:=aB.1 hg;have:p=p.take (s.size-z.size-1)++[46]:=by
   conv=>lhs;rw[<- List.take_append_drop (s.size-z.size-1) p]
   rw[List.drop_eq_getElem_cons hD,hg,List.drop_of_length_le (by omega)]
  rw[<- hp];conv=>lhs;rw[this]
  simp
end Go.Proofs.YtodofogcincleaaGreatDoor
namespace Go.Proofs.YtodofogcincleaaGreatDoor
open Go.RowKit Go.Shelf
theorem Hf(s:ByteArray)(w:World) :
 Calls Tryz.prog 68 #[.string s] w λe w' =>e= .returned (.bool (bq (S s)))/\Below w.heap.size w w' :=by
 go_enter Tryz.func68,Tryz.ntmps68
 go_wp2_with (go_at_call 136;refine(cE _ _).mono ?_;rintro e w' ⟨rfl,hb⟩)
 go_ret
 exact⟨rfl,hb⟩
theorem Eg(s:ByteArray)(w:World) :
 Calls Tryz.prog 201 #[.string s] w λe w' =>e= .returned (.tuple #[.string (mk (je (S s)).1),.int .i64 (je (S s)).2])/\Below w.heap.size w w' :=by
 by_cases hv:bq (S s)=true
 .by_cases h0:S s=[46]
  .have HR:Hid (je (S s)=([],4)):=by unfold Hid je;rw[if_pos hv,if_pos h0]
   have hq:=kr h0;clear h0
   go_enter Tryz.func201,Tryz.ntmps201
   go_wp2_with (go_at_call 136;refine(cE _ _).mono ?_;rintro e w' ⟨rfl,hb⟩;rw[hv])
   go_ret2
   rw[HR.out];exact⟨rfl,hb⟩
  .have hq:=gD h0;have hR:je (S s)=(dw (S s),0):=by unfold je;rw[if_pos hv,if_neg h0]
   have hF:=fo hv;rw[<- cr]at hF;rcases Dw (S s)with ⟨hi,hn⟩|⟨i,hD,hi,hn,hs⟩
   .rw[Gg h0 hn]at hR;have HR:=Lib.hid hR;have HI:=Lib.hid hi;clear hR hi hn h0
    go_enter Tryz.func201,Tryz.ntmps201
    go_wp2_with (first|(go_at_call 136;refine(cE _ _).mono ?_;rintro e w' ⟨rfl,hb⟩;rw[hv])|(go_at_call 242;refine(Tryz.strings_IndexByte _ _ _).mono ?_;rintro e w' ⟨rfl,rfl⟩;rw[show Lib.indexByte s.data.toList ((46:Int).toNat.toUInt8)= -1 from HI.out]))
    go_ret2
    rw[HR.out];exact⟨rfl,hb⟩
   .rw[Gh h0 hn hs]at hR;have HR:=Lib.hid hR;have HI:=Lib.hid hi;rw[<- cr]at hD;have hQ:i+1<=s.size:=hD;clear hR hi hn h0 hs
    go_enter Tryz.func201,Tryz.ntmps201
    go_wp2_with (first|(go_at_call 136;refine(cE _ _).mono ?_;rintro e w' ⟨rfl,hb⟩;rw[hv])|(go_at_call 242;refine(Tryz.strings_IndexByte _ _ _).mono ?_;rintro e w' ⟨rfl,rfl⟩;rw[show Lib.indexByte s.data.toList ((46:Int).toNat.toUInt8)=i from HI.out]))
    go_ret2
    rw[HR.out];refine⟨?_,hb⟩;have e1:mk ((S s).drop (i+1))=s.extract (i+1) s.size:=by
     apply zC;rw[S_mk,jX,cr,List.take_of_length_le (by simp)]
    rw[e1];rfl
 .have hJ :bq (S s)=false:=by simpa using hv
  have HR:Hid (je (S s)=([],11)):=by unfold Hid je;rw[if_neg hv]
  clear hv
  go_enter Tryz.func201,Tryz.ntmps201
  go_wp2_with (go_at_call 136;refine(cE _ _).mono ?_;rintro e w' ⟨rfl,hb⟩;rw[hJ])
  go_ret2
  rw[HR.out];exact⟨rfl,hb⟩
theorem He(s z:ByteArray)(w:World) :
 Calls Tryz.prog 94 #[.string s,.string z] w λe w' =>e= .returned (.tuple #[.bool (bK (S s) (S z)).1,.int .i64 (bK (S s) (S z)).2])/\Below w.heap.size w w' :=by
 by_cases hv:bq (S s)=true
 rotate_left
 .have hJ :bq (S s)=false:=by simpa using hv
  have HR:Hid (bK (S s) (S z)=(false,11)):=by unfold Hid bK;rw[if_neg (λh=>hv h.1)]
  clear hv
  go_enter Tryz.func94,Tryz.ntmps94
  go_wp2_with (go_at_call 136;refine(cE _ _).mono ?_;rintro e w' ⟨rfl,hb⟩;rw[hJ])
  go_ret2
  rw[HR.out];exact⟨rfl,hb⟩
 by_cases hz:bq (S z)=true
 rotate_left
 .have hU :bq (S z)=false:=by simpa using hz
  have HR:Hid (bK (S s) (S z)=(false,11)):=by unfold Hid bK;rw[if_neg (λh=>hz h.2)]
  clear hz
  go_enter Tryz.func94,Tryz.ntmps94
  go_wp2_with fail
  refine(cE _ _).mono ?_;rintro e w1 ⟨rfl,hb⟩;rw[hv]
  go_wp2_with fail
  refine(cE _ _).mono ?_;rintro e w2 ⟨rfl,ho⟩;rw[hU]
  go_wp2
  go_ret2
  rw[HR.out];exact⟨rfl,hb.trans (ho.mono hb.size)⟩
 have hR:bK (S s) (S z)=(bE (S s) (S z),0):=by unfold bK;rw[if_pos ⟨hv,hz⟩]
 have h1:=fo hv;have h2:=fo hz;rw[<- cr]at h1 h2;by_cases he:S s=S z
 .have hq:(s.toList==z.toList)=true:=by rw[fB,fB,he];simp
  have HR:Hid (bK (S s) (S z)=(true,0)):=by unfold Hid;rw[hR,he,sJ]
  clear hR he
  go_enter Tryz.func94,Tryz.ntmps94
  go_wp2_with fail
  refine(cE _ _).mono ?_;rintro e w1 ⟨rfl,hb⟩;rw[hv]
  go_wp2_with fail
  refine(cE _ _).mono ?_;rintro e w2 ⟨rfl,ho⟩;rw[hz]
  go_wp2
  go_ret2
  rw[HR.out];exact⟨rfl,hb.trans (ho.mono hb.size)⟩
 have hq:(s.toList==z.toList)=false:=by rw[fB,fB];simpa using he
 by_cases hr:S z=[46]
 .have hT:=kr hr;have HR:Hid (bK (S s) (S z)=(true,0)):=by unfold Hid;rw[hR,hr,IC]
  clear hR he hr
  go_enter Tryz.func94,Tryz.ntmps94
  go_wp2_with fail
  refine(cE _ _).mono ?_;rintro e w1 ⟨rfl,hb⟩;rw[hv]
  go_wp2_with fail
  refine(cE _ _).mono ?_;rintro e w2 ⟨rfl,ho⟩;rw[hz]
  go_wp2
  go_ret2
  rw[HR.out];exact⟨rfl,hb.trans (ho.mono hb.size)⟩
 have hT:=gD hr;by_cases hD:z.size<s.size
 rotate_left
 .have HR:Hid (bK (S s) (S z)=(false,0)):=by unfold Hid;rw[hR,IE hv hz he hr hD]
  clear hR he hr
  go_enter Tryz.func94,Tryz.ntmps94
  go_wp2_with fail
  refine(cE _ _).mono ?_;rintro e w1 ⟨rfl,hb⟩;rw[hv]
  go_wp2_with fail
  refine(cE _ _).mono ?_;rintro e w2 ⟨rfl,ho⟩;rw[hz]
  go_wp2
  go_ret2
  rw[HR.out];exact⟨rfl,hb.trans (ho.mono hb.size)⟩
 have hk:s.size-z.size-1<s.size:=by omega
 have hX:(0:Int)<=(s.size:Int)-z.size-1:=by omega
 by_cases hh:Lib.hasSuffix s.data.toList z.data.toList=true
 rotate_left
 .have hy :Lib.hasSuffix s.data.toList z.data.toList=false:=by simpa using hh
  have HR:Hid (bK (S s) (S z)=(false,0)):=by unfold Hid;rw[hR,ID hv hz he hr hy]
  have HS:=Lib.hid hy;clear hR he hr hh hy
  go_enter Tryz.func94,Tryz.ntmps94
  go_wp2_with fail
  refine(cE _ _).mono ?_;rintro e w1 ⟨rfl,hb⟩;rw[hv]
  go_wp2_with fail
  refine(cE _ _).mono ?_;rintro e w2 ⟨rfl,ho⟩;rw[hz]
  go_wp2_with (go_at_call 157;refine(Tryz.strings_HasSuffix _ _ _ (by omega)).mono ?_;rintro e w' ⟨rfl,rfl⟩;rw[HS.out])
  go_ret2
  rw[HR.out];exact⟨rfl,hb.trans (ho.mono hb.size)⟩
 .have HR:Hid (bK (S s) (S z)=(((s[s.size-z.size-1].toNat:Int)==46),0)):=by unfold Hid;rw[hR,LV hv hz he hr hD hh hk]
  have HS:=Lib.hid hh;clear hR he hr hh
  go_enter Tryz.func94,Tryz.ntmps94
  go_wp2_with fail
  refine(cE _ _).mono ?_;rintro e w1 ⟨rfl,hb⟩;rw[hv]
  go_wp2_with fail
  refine(cE _ _).mono ?_;rintro e w2 ⟨rfl,ho⟩;rw[hz]
  go_wp2_with (go_at_call 157;refine(Tryz.strings_HasSuffix _ _ _ (by omega)).mono ?_;rintro e w' ⟨rfl,rfl⟩;rw[HS.out])
  trace_state
  go_ret2
  rw[HR.out];exact⟨rfl,hb.trans (ho.mono hb.size)⟩
end Go.Proofs.YtodofogcincleaaGreatDoor
namespace Go.Proofs.YtodofogcincleaaGreatDoor
open Go.RowKit
structure gH(a b:Nat)(W W' :World):Prop where
 os:W'.os=W.os
 tape:W'.tape=W.tape
 output:W'.output=W.output
 size:W'.heap.size=W.heap.size
 block:∀k,k≠a->k≠b->W'.heap[k]? =W.heap[k]?
theorem gH.refl(a b:Nat)(W:World):gH a b W W:=⟨rfl,rfl,rfl,rfl,λ_ _ _=>rfl⟩
theorem gH.Vf{a b:Nat}{A W:World}(h:gH a b A W)(v:Value):gH a b A (W.setCell ⟨a,0,none⟩ v) :=
 ⟨h.os,h.tape,h.output,by rw[<- h.size];simp[World.setCell],λk h1 h2=>(Below.heap_setCell W ⟨a,0,none⟩ v k h1).trans (h.block k h1 h2)⟩
theorem gH.Vg{a b:Nat}{A W:World}(h:gH a b A W)(v:Value):gH a b A (W.setCell ⟨b,0,none⟩ v) :=
 ⟨h.os,h.tape,h.output,by rw[<- h.size];simp[World.setCell],λk h1 h2=>(Below.heap_setCell W ⟨b,0,none⟩ v k h2).trans (h.block k h1 h2)⟩
theorem gH.below{a b B0:Nat}{W W' :World}(h:gH a b W W')(ha:B0<=a)(hb:B0<=b):Below B0 W W' :=
 ⟨h.os,h.tape,h.output,Nat.le_of_eq h.size.symm,λk hk=>h.block k (by omega) (by omega)⟩
theorem gH.UY{a b d:Nat}{W W' :World}(h:gH a b W W')(ha:a<d)(hb:b<d):fq d W W' :=
 ⟨h.block d (by omega) (by omega),h.block (d+1) (by omega) (by omega)⟩
theorem gH.boxed{a b k:Nat}{W W' :World}{t:TypeId}{v:Value}(h:gH a b W W')(hx:Boxed W k t v)(h1:k≠a)(h2:k≠b):Boxed W' k t v:=(h.block k h1 h2).trans hx
def vd(tb ts:TypeId)(W:World)(bm br:Nat)(ls:List ByteArray):Prop :=
 ∃(m:Bool) (rest:ByteArray),Boxed W bm tb (.bool m)/\Boxed W br ts (.string rest)/\rest.size<=140737488355328/\((m=false/\ls=[])\/(m=true/\ls=((ba (S rest)).reverse).map mk))
theorem vd.La{tb ts:TypeId}{W W' :World}{bm br:Nat}{ls:List ByteArray}(h:vd tb ts W bm br ls)(hm:W'.heap[bm]? =W.heap[bm]?)(hr:W'.heap[br]? =W.heap[br]?):vd tb ts W' bm br ls:=by
 obtain⟨m,rest,h1,h2,h3⟩:=h;exact⟨m,rest,hm.trans h1,hr.trans h2,h3⟩
def OR(tb ts:TypeId)(bm br:Nat)(ls:List ByteArray)(W:World)(e:Ending)(W' :World):Prop :=
 (ls=[]/\e= .returned (.tuple #[.string (mk []),.bool false])/\W=W') \/
 (∃x t,ls=x::t/\e= .returned (.tuple #[.string x,.bool true])/\vd tb ts W' bm br t/\gH bm br W W')
end Go.Proofs.YtodofogcincleaaGreatDoor
namespace Go.Proofs.YtodofogcincleaaGreatDoor
open Go.RowKit Go.Shelf
theorem Gk(t:ByteArray)(ht:t.size<=140737488355328)(w:World) :
 Calls Tryz.prog 243 #[.string t] w λe w' =>e= .returned (.func (.func 257) #[] #[.pointer (some ⟨w.heap.size+1,0,none⟩),.pointer (some ⟨w.heap.size,0,none⟩)]) /\
  vd 4 9 w' (w.heap.size+1) w.heap.size ((back (S t)).map mk)/\Below w.heap.size w w' /\w'.heap.size=w.heap.size+2:=by
 have key:∀(m:Bool),((m=false/\S t=[46])\/(m=true/\ ¬S t=[46]))->vd 4 9 ((w.alloc (.cells #[.string t] 9)).alloc (.cells #[.bool m] 4)) (w.heap.size+1) w.heap.size ((back (S t)).map mk):=by
  intro m hm;have h1:=Boxed.new (w.alloc (.cells #[.string t] 9)) 4 (.bool m);rw[World.size_alloc]at h1;refine⟨m,t,h1,(Boxed.new w _ _).alloc _,ht,?_⟩;rcases hm with ⟨rfl,h⟩|⟨rfl,h⟩
  .exact .inl ⟨rfl,by simp[back,h]⟩
  .exact .inr ⟨rfl,by simp[back,h]⟩
 by_cases hr:S t=[46]
 .have hq:=kr hr;have HK:=Lib.hid (key false (.inl ⟨rfl,hr⟩));clear key hr
  go_enter Tryz.func243,Tryz.ntmps243
  go_wp2
  go_ret
  exact⟨rfl,HK.out,((Below.refl _ w).alloc (Nat.le_refl _) _).alloc (by simp) _,by simp⟩
 .have hq:=gD hr;have HK:=Lib.hid (key true (.inr ⟨rfl,hr⟩));clear key hr
  go_enter Tryz.func243,Tryz.ntmps243
  go_wp2
  go_ret
  exact⟨rfl,HK.out,((Below.refl _ w).alloc (Nat.le_refl _) _).alloc (by simp) _,by simp⟩
theorem Lb(bm br:Nat)(hj:bm≠br)(ls:List ByteArray)(W:World)(h:vd 4 9 W bm br ls) :
 Calls Tryz.prog 257 #[.pointer (some ⟨bm,0,none⟩),.pointer (some ⟨br,0,none⟩)] W (OR 4 9 bm br ls W):=by
 obtain⟨m,rest,h1,h2,hf,⟨rfl,rfl⟩|⟨rfl,rfl⟩⟩:=h
 .have c1:=h1.cell
  go_enter Tryz.func257,Tryz.ntmps257
  go_wp2
  go_ret2
  exact .inl ⟨rfl,rfl,rfl⟩
 .have c1:=h1.cell;have c2:=h2.cell;have f1:=h1.frozen;have f2:=h2.frozen;rcases wj rest with ⟨hi,hE⟩|⟨i,hG,hi,hE⟩
  .have HI:=Lib.hid hi;have HE:Hid (((ba (S rest)).reverse).map mk=[rest]):=by unfold Hid;rw[hE];simp
   have hz:rest.extract 0 rest.size=rest:=by apply zC;rw[jX,cr];simp
   clear hi hE
   go_enter Tryz.func257,Tryz.ntmps257
   go_wp2_with (go_at_call 241;refine(Tryz.strings_LastIndexByte _ _ (by omega) _).mono ?_;rintro e w' ⟨rfl,rfl⟩;rw[HI.out])
   go_ret2
   rw[HE.out];exact .inr ⟨rest,[],rfl,rfl,⟨false,rest,h1.set _,h2.setOther (Ne.symm hj) _,hf,.inl ⟨rfl,rfl⟩⟩,(gH.refl bm br _).Vf _⟩
  .have HI:=Lib.hid hi;have HE:Hid (((ba (S rest)).reverse).map mk=rest.extract (i+1) rest.size::((ba (S (rest.extract 0 i))).reverse).map mk):=by unfold Hid;rw[hE];simp
   have hW:i+1<=rest.size:=hG;have HX:Hid ((rest.extract 0 i).size=i):=by unfold Hid;rw[cr,jX,List.length_take,List.length_drop, <- cr];omega
   clear hi hE
   go_enter Tryz.func257,Tryz.ntmps257
   go_wp2_with (go_at_call 241;refine(Tryz.strings_LastIndexByte _ _ (by omega) _).mono ?_;rintro e w' ⟨rfl,rfl⟩;rw[HI.out])
   go_ret2
   rw[HE.out];exact .inr ⟨_,_,rfl,rfl,⟨true,rest.extract 0 i,h1.setOther hj _,h2.set _,by rw[HX.out];omega,.inr ⟨rfl,rfl⟩⟩,(gH.refl bm br _).Vg _⟩
end Go.Proofs.YtodofogcincleaaGreatDoor
