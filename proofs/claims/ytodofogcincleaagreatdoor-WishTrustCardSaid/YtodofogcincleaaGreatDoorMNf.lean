/-
  Merged texts.
-/
import Derived.Test.YtodofogcincleaaGreatDoorMNc
import Derived.Laws.EntriesVeiled
set_option linter.all false
set_option maxHeartbeats 1000000
namespace Go.Proofs.YtodofogcincleaaGreatDoor
open Go.RowKit
theorem si{α:Type}{cmp:α->α->Int}(h:jD cmp)(p a b:List α):cP cmp (p++a) (p++b)=cP cmp a b:=by
 induction p with
 |nil=>rfl
 |cons x p ih =>
  show cP cmp (x::(p++a)) (x::(p++b))=_
  rw[cP,if_pos ((h.zero x x).2 rfl)];exact ih
theorem Pw(p post:List Bs)(x:Bs):cmpL (p++x::post) p=1:=by
 have:=si du p (x::post) [];rw[List.append_nil]at this;exact this
theorem Pu(p post t:List Bs)(x y:Bs)(h:Lib.compareBytes x y≠0):cmpL (p++x::post) (p++y::t)=Lib.compareBytes x y:=by
 have:=si du p (x::post) (y::t);unfold cmpL;rw[this,cP,if_neg h]
theorem Pv(p:List Bs)(y:Bs)(t:List Bs):cmpL p (p++y::t)= -1:=by
 have:=si du p [] (y::t);rw[List.append_nil]at this;exact this
theorem wL{w w1:World}{v u:Value}{t t' :TypeId}(hb:Below ((w.alloc (.cells #[v] t)).alloc (.cells #[u] t')).heap.size ((w.alloc (.cells #[v] t)).alloc (.cells #[u] t')) w1) :
 Boxed w1 w.heap.size t v/\Boxed w1 (w.heap.size+1) t' u/\Below w.heap.size w w1/\w.heap.size+2<=w1.heap.size:=by
 have h1:=Boxed.new (w.alloc (.cells #[v] t)) t' u;rw[World.size_alloc]at h1;refine⟨((Boxed.new w t v).alloc _).below hb (by simp;omega),h1.below hb (by simp),?_,?_⟩
 .exact(((Below.refl _ w).alloc (Nat.le_refl _) _).alloc (by simp) _).trans (hb.mono (by simp;omega))
 .have:=hb.size;simp at this;omega
def cI(ti te tf tb ts:TypeId)(w:World)(b0 b8 bm br:Nat)(fv:Value)(ls:List ByteArray)(pre:List ByteArray)(W:World):Prop :=
 (∃rest,ls=pre++rest/\vd tb ts W bm br rest)/\(∃v,Boxed W b0 ti v)/\(∃v,Boxed W (b0+1) te v)/\Boxed W b8 tf fv/\Below w.heap.size w W
def cX(ti te:TypeId)(w:World)(b0:Nat)(xs ls:List Bs)(c:Code)(_:List ByteArray)(W:World):Prop :=
 c= .ret/\Boxed W b0 ti (.int .i64 (cmpL xs ls))/\Boxed W (b0+1) te (.int .i64 0)/\Below w.heap.size w W
theorem Sm{ti te tf tb ts:TypeId}{w:World}{b0 b8 bm br d:Nat}{fv:Value}{ls pre:List ByteArray}{A B:World}(h:cI ti te tf tb ts w b0 b8 bm br fv ls pre A)
 (hz:d+2<=A.heap.size) (hk:dV d A B) (h0:b0+1<d) (h8:b8<d) (hm:bm<d) (hr:br<d) (hw:w.heap.size<=d):cI ti te tf tb ts w b0 b8 bm br fv ls pre B:=by
 obtain⟨⟨rest,h1,h2⟩,⟨v3,h3⟩,⟨v4,h4⟩,h5,h6⟩:=h;exact⟨⟨rest,h1,h2.La (hk.block _ (by omega) (by omega) (by omega)) (hk.block _ (by omega) (by omega) (by omega))⟩,⟨v3,h3.ix hk (by omega)⟩,⟨v4,h4.ix hk (by omega)⟩,h5.ix hk (by omega),h6.trans (hk.below (by omega) (by omega))⟩
theorem Sn{ti te:TypeId}{w:World}{b0 d:Nat}{xs ls:List Bs}{c:Code}{pre:List ByteArray}{A B:World}(h:cX ti te w b0 xs ls c pre A)
 (hz:d+2<=A.heap.size) (hk:dV d A B) (h0:b0+1<d) (hw:w.heap.size<=d):cX ti te w b0 xs ls c pre B:=by
 obtain⟨h1,h2,h3,h4⟩:=h;exact⟨h1,h2.ix hk (by omega),h3.ix hk (by omega),h4.trans (hk.below (by omega) (by omega))⟩
end Go.Proofs.YtodofogcincleaaGreatDoor
namespace Go.Proofs.YtodofogcincleaaGreatDoor
open Go.RowKit Go.Shelf
attribute [local go_sem] Oper.semAt_some
theorem um(l:List Bs):(l.map mk).map S=l:=by simp[List.map_map,Function.comp_def]
theorem Dt(a b:ByteArray)(w:World) :
 Calls Tryz.prog 204 #[.string a,.string b] w λe w' =>e= .returned (.tuple #[.int .i64 (fg (S a) (S b)).1,.int .i64 (fg (S a) (S b)).2])/\Below w.heap.size w w' :=by
 refine(callsIn_wide (n:=3)).1 ?_;refine callsIn_of_wp_marks Tryz.func204 rfl trivial ?_ rfl;simp only[Tryz.ntmps204,List.size_toArray,List.length_cons,List.length_nil,Nat.reduceAdd,Nat.reduceSub,Array.replicate_succ,Array.replicate_zero,List.push_toArray,List.append_toArray,List.nil_append,List.cons_append];by_cases hv:bq (S a)=true
 rotate_left
 .have hT :bq (S a)=false:=by simpa using hv
  have HR:Hid (fg (S a) (S b)=(0,11)):=by unfold Hid fg;rw[if_neg (λh=>hv h.1)]
  clear hv
  gi_wp2_with fail
  refine⟨trivial,(callsIn_wide.2 (cE _ _)).mono ?_⟩;rintro e w1 ⟨rfl,hb⟩;obtain⟨h0,h1,hg,hJ⟩:=wL hb;have c0:=h0.cell;have f0:=h0.frozen;have c1:=h1.cell;have f1:=h1.frozen;clear hb;rw[hT]
  gi_wp2_with fail
  refine⟨trivial,?_⟩
  gi_wp2
  have g0:=((h0.set (.int .i64 0)).setOther (c:=w.heap.size+1) (by omega) (.int .i64 11)).cell;have g1:=((h1.setOther (c:=w.heap.size) (by omega) (.int .i64 0)).set (.int .i64 11)).cell;refine⟨.tuple #[.int .i64 0,.int .i64 11],?_,?_⟩
  .simp[results,Tryz.results204,go_sem,g0,g1]
  .rw[HR.out];exact⟨rfl,(hg.set (by omega) _).set (by omega) _⟩
 by_cases hz:bq (S b)=true
 rotate_left
 .have hU :bq (S b)=false:=by simpa using hz
  have HR:Hid (fg (S a) (S b)=(0,11)):=by unfold Hid fg;rw[if_neg (λh=>hz h.2)]
  clear hz
  gi_wp2_with fail
  refine⟨trivial,(callsIn_wide.2 (cE _ _)).mono ?_⟩;rintro e w1 ⟨rfl,hb⟩;rw[hv]
  gi_wp2_with fail
  refine⟨trivial,(callsIn_wide.2 (cE _ _)).mono ?_⟩;rintro e w2 ⟨rfl,hl⟩;obtain⟨h0,h1,hg,hJ⟩:=wL (hb.trans (hl.mono hb.size));have c0:=h0.cell;have f0:=h0.frozen;have c1:=h1.cell;have f1:=h1.frozen;clear hb hl;rw[hU]
  gi_wp2
  have g0:=((h0.set (.int .i64 0)).setOther (c:=w.heap.size+1) (by omega) (.int .i64 11)).cell;have g1:=((h1.setOther (c:=w.heap.size) (by omega) (.int .i64 0)).set (.int .i64 11)).cell;refine⟨.tuple #[.int .i64 0,.int .i64 11],?_,?_⟩
  .simp[results,Tryz.results204,go_sem,g0,g1]
  .rw[HR.out];exact⟨rfl,(hg.set (by omega) _).set (by omega) _⟩
 have hR:fg (S a) (S b)=(cmpL (back (S a)) (back (S b)),0):=by unfold fg;rw[if_pos ⟨hv,hz⟩];rfl
 have hP:=fo hv;have hQ:=fo hz;rw[<- cr]at hP hQ
 gi_wp2_with fail
 refine⟨trivial,(callsIn_wide.2 (cE _ _)).mono ?_⟩;rintro e w1 ⟨rfl,hb⟩;rw[hv]
 gi_wp2_with fail
 refine⟨trivial,(callsIn_wide.2 (cE _ _)).mono ?_⟩;rintro e w2 ⟨rfl,hl⟩;obtain⟨h0,h1,hg,hJ⟩:=wL (hb.trans (hl.mono hb.size));clear hb hl;rw[hz];clear hv hz;by_cases he:S a=S b
 .have hq:(a.toList==b.toList)=true:=by rw[fB,fB,he];simp
  have HR:Hid (fg (S a) (S b)=(0,0)):=by unfold Hid;rw[hR,he,(oq.zero _ _).2 rfl]
  have c0:=h0.cell;have f0:=h0.frozen;have c1:=h1.cell;have f1:=h1.frozen;clear he hR
  gi_wp2
  have g0:=((h0.set (.int .i64 0)).setOther (c:=w.heap.size+1) (by omega) (.int .i64 0)).cell;have g1:=((h1.setOther (c:=w.heap.size) (by omega) (.int .i64 0)).set (.int .i64 0)).cell;refine⟨.tuple #[.int .i64 0,.int .i64 0],?_,?_⟩
  .simp[results,Tryz.results204,go_sem,g0,g1]
  .rw[HR.out];exact⟨rfl,(hg.set (by omega) _).set (by omega) _⟩
 have hq:(a.toList==b.toList)=false:=by rw[fB,fB];simpa using he
 have HR:=Lib.hid hR;have HE:=Lib.hid he;clear he hR
 gi_wp2_with fail
 refine⟨trivial,(callsIn_wide.2 (Gk _ (by omega) _)).mono ?_⟩;rintro e w3 ⟨rfl,hp,hs,hh⟩;have hC:=Lib.hid hh;have hD :=h0.below hs (by omega);have hE :=h1.below hs (by omega);have hF:=hg.trans (hs.mono (by omega));clear h0 h1 hg hs hh
 gi_wp2
 obtain⟨fv,hI⟩:∃fv,Value.func (Fn.func 257) #[] #[Value.pointer (some {block:=w2.heap.size+1,off:=0}),Value.pointer (some {block:=w2.heap.size,off:=0})]=fv:=⟨_,rfl⟩
 obtain⟨W0,hf⟩:∃W0,w3.alloc (Obj.cells #[fv] 285)=W0:=⟨_,rfl⟩
 have hh:=hC.out;have ha:W0.heap.size=w2.heap.size+3:=by rw[<- hf];simp;omega
 have ho:cI 3 49 285 4 9 w w.heap.size (w2.heap.size+2) (w2.heap.size+1) w2.heap.size fv ((back (S b)).map mk) [] W0:=by
  have hG:=Boxed.new w3 285 fv;rw[hf,hh]at hG;have hj:Below w3.heap.size w3 W0:=by rw[<- hf];exact(Below.refl _ w3).alloc (Nat.le_refl _) _
  exact⟨⟨_,rfl,hp.La (hj.block _ (by omega)) (hj.block _ (by omega))⟩,⟨_,hD.below hj (by omega)⟩,⟨_,hE.below hj (by omega)⟩,hG,hF.trans (hj.mono (by omega))⟩
 have hW:Hid (w3.heap.size=w2.heap.size+2):=hh;rw[hh,hI,hf];clear hp hD hE hF hh hC;refine sM (gf:=198) (first:= #[.string a]) (lb:= #[]) rfl (enters_of Tryz.func198 (by kernel_rfl) rfl) (yH a (by omega) w.heap.size W0) (by omega) (λA B h=>h ▸ Below.refl _ _) (λ_=>rfl)
  (cI 3 49 285 4 9 w w.heap.size (w2.heap.size+2) (w2.heap.size+1) w2.heap.size fv ((back (S b)).map mk))
  (cX 3 49 w w.heap.size (back (S a)) (back (S b)))
  (λpre A B h hz hk=>Sm h hz hk (by omega) (by omega) (by omega) (by omega) (by omega)) (λc pre A B h hz hk=>Sn h hz hk (by omega) (by omega))
  (λW hk=>?start)
  (fun x => { tmps := #[.string a, .string b, undef, undef, Value.pointer (some { block := w.heap.size, off := 0 }),
        Value.pointer (some {block:=w.heap.size+1,off:=0}),Value.string a,Value.string b,
        Value.pointer (some {block:=w2.heap.size+2,off:=0}),Value.func (Fn.func 198) #[Value.string a] #[],.string x,undef,undef,undef,Value.string a,
        Value.string b,Value.string a,Value.bool true,Value.bool false,Value.bool false,Value.string b,
        Value.bool true,Value.bool false,Value.bool false,Value.string a,Value.string b,Value.bool false,
        Value.string b,fv,Value.string a,Value.func (Fn.func 198) #[Value.string a] #[],Value.func (Fn.func 198) #[Value.string a] #[],.string x,undef,undef,undef,undef,undef,undef,undef,undef,undef,undef,undef,undef,undef],defers:=[]}) ?assign ?body ?done ?stop
 case start =>
  obtain⟨⟨rest,k1,k2⟩,⟨v3,k3⟩,⟨v4,k4⟩,k5,k6⟩:=ho;exact⟨⟨rest,k1,k2.La (hk.block _ (by omega) (by omega) (by omega)) (hk.block _ (by omega) (by omega) (by omega))⟩,⟨v3,k3.ix hk (by omega)⟩,⟨v4,k4.ix hk (by omega)⟩,k5.ix hk (by omega),k6.trans (hk.below (by omega) (by omega))⟩
 case assign =>
  intro l x W K hK
  gi_wp2
  exact hK
 case body =>
  rintro l pre x post W hx hL ⟨⟨rest,k1,k2⟩,⟨v3,k3⟩,⟨v4,k4⟩,k5,k6⟩;have HX:=Lib.hid hx;have hi:=Lib.hid k1;have hd:=Lib.hid ha;clear hx ho hq hf k1 ha;subst hI;have c5:=k5.cell
  gi_wp2_with fail
  refine⟨trivial,(CallsIn.inRound l (callsIn_wide.2 (Lb _ _ (by omega) rest _ k2))).mono ?_⟩;rintro e W' (⟨rfl,rfl,rfl⟩|⟨y,t,rfl,rfl,hS,hn⟩)
  .have c3:=k3.cell;have f3:=k3.frozen;have c4:=k4.cell;have f4:=k4.frozen
   gi_wp2
   have ha:=hd.out;refine⟨((fq.refl _ _).set (.inl (by omega)) _).set (.inl (by omega)) _,rfl,?_,(k4.setOther (by omega) _).set _,(k6.set (by omega) _).set (by omega) _⟩;have e1:cmpL (back (S a)) (back (S b))=1:=by
    have h1:=congrArg (List.map S) HX.out;have h2:=congrArg (List.map S) hi.out;rw[um]at h1 h2;rw[h1,h2,List.append_nil,List.map_append];exact Pw _ _ _
   rw[e1];exact(k3.set _).setOther (by omega) _
  .have ht :=hn.boxed k3 (by omega) (by omega);have hy :=hn.boxed k4 (by omega) (by omega);have hV :=hn.boxed k5 (by omega) (by omega);have s2:fq W0.heap.size W W' :=hn.UY (by rw[hd.out];omega) (by rw[hd.out];omega);have b2:Below w.heap.size W W' :=hn.below (by omega) (by omega);have b6:=k6.trans b2;have c3:=ht.cell;have f3:=ht.frozen;have c4:=hy.cell;have f4:=hy.frozen;have r:=du.range x.data.toList y.data.toList;clear k2 k3 k4 k5 k6 c5;by_cases hc:Lib.compareBytes x.data.toList y.data.toList=0
   .have HC:=Lib.hid hc;clear hc r
    gi_wp2_with (refine⟨trivial,?_⟩;gi_at_call 244;refine(CallsIn.inRound l (callsIn_wide.2 (Tryz.strings_Compare _ _ _))).mono ?_;rintro e w' ⟨rfl,rfl⟩;rw[HC.out])
    have hN:x=y:=zC ((du.zero _ _).1 HC.out);refine⟨s2,b2,⟨t,?_,hS⟩,⟨v3,ht⟩,⟨v4,hy⟩,hV,b6⟩;rw[hi.out,hN];simp
   .have hB:Hid (cmpL (back (S a)) (back (S b))=Lib.compareBytes x.data.toList y.data.toList):=by
     have h1:=congrArg (List.map S) HX.out;have h2:=congrArg (List.map S) hi.out;rw[um]at h1 h2;unfold Hid;rw[h1,h2,List.map_append,List.map_append];exact Pu _ _ _ _ _ hc
    obtain⟨c,hA⟩:∃c,Lib.compareBytes x.data.toList y.data.toList=c:=⟨_,rfl⟩
    rw[hA]at hc hB;have hX :(c != 0)=true:=by simpa using hc
    have hM:=Lib.hid hA;clear hc hA r
    gi_wp2_with (refine⟨trivial,?_⟩;gi_at_call 244;refine(CallsIn.inRound l (callsIn_wide.2 (Tryz.strings_Compare _ _ _))).mono ?_;rintro e w' ⟨rfl,rfl⟩;rw[hM.out])
    have ha:=hd.out;refine⟨(s2.set (.inl (by omega)) _).set (.inl (by omega)) _,rfl,?_,(hy.setOther (by omega) _).set _,(b6.set (by omega) _).set (by omega) _⟩;rw[hB.out];exact(ht.set _).setOther (by omega) _
 case done =>
  rintro W hL ⟨⟨rest,k1,k2⟩,⟨v3,k3⟩,⟨v4,k4⟩,k5,k6⟩ hK;have hi:=Lib.hid k1;have hd:=Lib.hid ha;have HK:=Lib.hid hK;clear ho hf k1 ha hK;have c3:=k3.cell;have f3:=k3.frozen;have c4:=k4.cell;have f4:=k4.frozen
  gi_wp2
  have ha:=hd.out;refine⟨by simp,.inl ⟨_,_,rfl,run_takeDeferred (ov _ (by omega) (ov _ (by omega) HK.out)),?_⟩⟩;have g0:=(((k3.set (.int .i64 (-1))).setOther (c:=w.heap.size+1) (by omega) (.int .i64 0)).kE (l:=W0.heap.size) (by omega) (.deferred none)).cell;have g1:=(((k4.setOther (c:=w.heap.size) (by omega) (.int .i64 (-1))).set (.int .i64 0)).kE (l:=W0.heap.size) (by omega) (.deferred none)).cell;have e1:cmpL (back (S a)) (back (S b))= -1:=by
   have h2:=congrArg (List.map S) hi.out;rw[um,List.map_append,um]at h2;cases rest with
   |nil =>
    rw[List.map_nil,List.append_nil]at h2;exact absurd (yG h2.symm) HE.out
   |cons y t=>rw[h2];exact Pv _ _ _
  refine⟨.tuple #[.int .i64 (-1),.int .i64 0],?_,?_⟩
  .simp[results,Tryz.results204,go_sem,g0,g1]
  .rw[HR.out,e1];exact⟨rfl,((k6.set (by omega) _).set (by omega) _).put (by omega) _⟩
 case stop =>
  rintro c pre W hp hL ⟨rfl,k2,k3,k4⟩ hK;have hd:=Lib.hid ha;clear ho hf ha
  gi_wp2
  have ha:=hd.out;refine⟨by simp,.inl ⟨_,_,rfl,run_takeDeferred hK,?_⟩⟩;have g0:=(k2.kE (l:=W0.heap.size) (by omega) (.deferred none)).cell;have g1:=(k3.kE (l:=W0.heap.size) (by omega) (.deferred none)).cell;refine⟨.tuple #[.int .i64 (cmpL (back (S a)) (back (S b))),.int .i64 0],?_,?_⟩
  .simp[results,Tryz.results204,go_sem,g0,g1]
  .rw[HR.out];exact⟨rfl,k4.put (by omega) _⟩
end Go.Proofs.YtodofogcincleaaGreatDoor
namespace Go.Proofs.YtodofogcincleaaGreatDoor
open Go.RowKit
end Go.Proofs.YtodofogcincleaaGreatDoor
namespace Go.Proofs.YtodofogcincleaaGreatDoor
open Go.RowKit Go.Shelf
attribute [local go_sem] Oper.semAt_some
end Go.Proofs.YtodofogcincleaaGreatDoor
