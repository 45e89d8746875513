/-
  One text.
-/
import Derived.Test.YtodofogcincleaaGreatDoorCards
import Derived.Test.YtodofogcincleaaGreatDoorTie
import Derived.Test.YtodofogcincleaaGreatDoorKgM
import Derived.Test.YtodofogcincleaaGreatDoorMYzq
import Derived.ProofKit
import Derived.Carry
import Derived.Deep.DeepHandedRow
import Derived.Lib.LaidTab
import Derived.SevenTiedAt
set_option linter.all false
set_option maxRecDepth 100000
namespace Go.Proofs.YtodofogcincleaaGreatDoor.wishTrust
open Go.ChangeShapes Go.WideShapes Go.ChangeAt Go.RowKit NQ
theorem contract(H:Type)(enc:TypeId×Value->H)(W:World)(base:Nat)(args:Array Value)(ds gs:List (DataW H))(before:List MemPlace)
 (ha:∀(j:Nat) t v,Tryz.f5.params[j]? =some t->args[j]? =some v->Value.okWide Tryz.prog W .any base t v)
 (hW:DataW.Whole enc Tryz.prog Tryz.f5.params.toList Rows.wishTrustSpec.vars false W args.toList ds gs before) (hL:laidMetH Tryz.prog Rows.wishTrustRow.laid W) :
 Calls Tryz.prog 5 args W λe W' => ∃v,e= .returned v/\Rows.wishTrustSpec.post enc Tryz.prog Tryz.f5 false true false false W args v W' :=by
 have hg :=hW;obtain⟨p,q,hc,hV,rfl,hB,hC⟩:=hW;have hA:DataW.TrodAll enc Tryz.prog W 0 (λ_=>true) true Tryz.f5.params.toList args.toList ds p:=hc;rw[Tryz.params5]at hA ha;obtain⟨v0,hD,d0,hq,p0,q0,hd,rfl,rfl,h0,r0⟩:=trodAll_cons hA;obtain⟨v1,hE,d1,hr,p1,q1,rfl,rfl,rfl,h1,r1⟩:=trodAll_cons r0;obtain⟨v2,hF,d2,hs,p2,q2,rfl,rfl,rfl,h2,r2⟩:=trodAll_cons r1;obtain⟨v3,hG,d3,hv,p3,q3,rfl,rfl,rfl,h3,r3⟩:=trodAll_cons r2;obtain⟨v4,hI,d4,hy,p4,q4,rfl,rfl,rfl,h4,r4⟩:=trodAll_cons r3;obtain⟨v5,hJ,d5,hz,p5,q5,rfl,rfl,rfl,h5,r5⟩:=trodAll_cons r4;obtain⟨rfl,rfl,rfl⟩:=trodAll_nil r5
 obtain rfl:args= #[v0,v1,v2,v3,v4,v5]:=by cases args;simp_all
 obtain⟨rfl,rfl⟩:=trodVars_none hV;have hi:∀x∈p0,x.block<W.heap.size:=by obtain⟨m,hm⟩:=h0;exact DataW.trod_lt m _ _ _ hm
 obtain⟨x0,e0⟩:=Mu (ha 0 29 v0 rfl rfl) h0;have hj:∀x∈p1,x.block<W.heap.size:=by obtain⟨m,hm⟩:=h1;exact DataW.trod_lt m _ _ _ hm
 obtain⟨x1,e1⟩:=Pf (ha 1 33 v1 rfl rfl) h1;have hl:∀x∈p2,x.block<W.heap.size:=by obtain⟨m,hm⟩:=h2;exact DataW.trod_lt m _ _ _ hm
 obtain⟨x2,b2,e2⟩:=DL (ha 2 3 v2 rfl rfl) h2;have hn:∀x∈p3,x.block<W.heap.size:=by obtain⟨m,hm⟩:=h3;exact DataW.trod_lt m _ _ _ hm
 obtain⟨x3,b3,e3⟩:=DL (ha 3 3 v3 rfl rfl) h3;have ho:∀x∈p4,x.block<W.heap.size:=by obtain⟨m,hm⟩:=h4;exact DataW.trod_lt m _ _ _ hm
 obtain⟨x4,b4,e4⟩:=DL (ha 4 3 v4 rfl rfl) h4;have hp:∀x∈p5,x.block<W.heap.size:=by obtain⟨m,hm⟩:=h5;exact DataW.trod_lt m _ _ _ hm
 obtain⟨x5,b5,e5⟩:=DL (ha 5 3 v5 rfl rfl) h5;clear hc;have walk:=SA (GV x0 x1 x2 b2 x3 b3 x4 b4 x5 b5) (KI hL) (vs:= #[v0,v1,v2,v3,v4,v5]) rfl λj x hx=>by
  rcases j with _|_|_|_|_|_|j
  .cases hx;exact e0
  .cases hx;exact e1
  .cases hx;exact e2
  .cases hx;exact e3
  .cases hx;exact e4
  .cases hx;exact e5
  .simp at hx
 refine walk.mono λe W' ⟨he,hb⟩=>?_
 subst he
 exact⟨_,rfl,_,_,_,[],_,[],hg,trodAll_mk1 (shut_bool Tryz.underlying4 _),(trodAll_cons_mk (Below.trod laidOut (by kernel_rfl) (of_decide_eq_true (by kernel_rfl)) h0 hb hi) (trodAll_cons_mk (Below.trod laidOut (by kernel_rfl) (of_decide_eq_true (by kernel_rfl)) h1 hb hj) (trodAll_cons_mk (Below.trod laidOut (by kernel_rfl) (of_decide_eq_true (by kernel_rfl)) h2 hb hl) (trodAll_cons_mk (Below.trod laidOut (by kernel_rfl) (of_decide_eq_true (by kernel_rfl)) h3 hb hn) (trodAll_cons_mk (Below.trod laidOut (by kernel_rfl) (of_decide_eq_true (by kernel_rfl)) h4 hb ho) (trodAll_cons_mk (Below.trod laidOut (by kernel_rfl) (of_decide_eq_true (by kernel_rfl)) h5 hb hp) trodAll_mk0)))))),rfl,hb.frame _,λh=>by cases h⟩
noncomputable def laidWorld (os:Os):World :=
 { World.holding Tryz.prog os ⟨#[], #[], []⟩ with heap := (World.holding Tryz.prog os ⟨#[], #[], []⟩).heap.modify 0 fun
     | .cells _ t frozen=> .cells (wB.map fun| .int k n=>Value.int k n| .bool b=>Value.bool b|_=>Go.undef).toArray t frozen
     |o=>o}
theorem laid_met(os:Os):laidMet Tryz.prog Rows.wishTrustRow.laid ((laidWorld os).forCall (λ_ _=>0) ⟨#[], #[.agg #[.slice none 0 0,.slice none 0 0,.string ByteArray.empty,.int .i64 0,.int .i64 0,.slice none 0 0,.slice none 0 0],.agg #[.int .i64 0,.string ByteArray.empty,.string ByteArray.empty,.slice none 0 0,.int .i64 0,.int .i64 0],.int .i64 0,.int .i64 0,.int .i64 0,.int .i64 0],[]⟩).memory :=
 laidMet_of_run' 8 (by kernel_rfl) (by kernel_rfl)
theorem reads(os:Os){H:Type}(enc:TypeId×Value->H):∃places,DataW.whole enc Tryz.prog ((laidWorld os).forCall (λ_ _=>0) ⟨#[], #[.agg #[.slice none 0 0,.slice none 0 0,.string ByteArray.empty,.int .i64 0,.int .i64 0,.slice none 0 0,.slice none 0 0],.agg #[.int .i64 0,.string ByteArray.empty,.string ByteArray.empty,.slice none 0 0,.int .i64 0,.int .i64 0],.int .i64 0,.int .i64 0,.int .i64 0,.int .i64 0],[]⟩).memory Tryz.f5.params.toList Rows.wishTrustSpec.vars false (#[.agg #[.slice none 0 0,.slice none 0 0,.string ByteArray.empty,.int .i64 0,.int .i64 0,.slice none 0 0,.slice none 0 0],.agg #[.int .i64 0,.string ByteArray.empty,.string ByteArray.empty,.slice none 0 0,.int .i64 0,.int .i64 0],.int .i64 0,.int .i64 0,.int .i64 0,.int .i64 0]:Array Value).toList 8=some ([.agg [.nil,.nil,.agg [.lit (.string []),.lit (.int .i64 0),.lit (.int .i64 0),.nil],.nil],.agg [.lit (.int .i64 0),.lit (.string []),.lit (.string []),.nil,.agg [.lit (.int .i64 0),.lit (.int .i64 0)]],.lit (.int .i64 0),.lit (.int .i64 0),.lit (.int .i64 0),.lit (.int .i64 0)],[],places) :=
 ⟨[],by kernel_rfl⟩
theorem lifted(os:Os)(started:os.Started)(H:Type)(enc:TypeId×Value->H)(F:Stop.Interp) :
 ReturnsInHanded {} Tryz.checked os 5 .any ((OpenSpec.ofChange Rows.wishTrustSpec).preRow enc Tryz.prog Tryz.f5 Rows.wishTrustRow.domain false Rows.wishTrustRow.laid) (((OpenSpec.ofChange Rows.wishTrustSpec).at F).post enc Tryz.prog Tryz.f5 false true false false):=by
 obtain⟨places,hx⟩:=reads os enc;refine returnsInHanded_of_row (C:=Tryz.checked) (s:=OpenSpec.ofChange Rows.wishTrustSpec) own started (by kernel_rfl) Tryz.func5
  (witness_row_at (enc:=enc) (C:=Tryz.checked) false (laidWorld os) #[.agg #[.slice none 0 0,.slice none 0 0,.string ByteArray.empty,.int .i64 0,.int .i64 0,.slice none 0 0,.slice none 0 0],.agg #[.int .i64 0,.string ByteArray.empty,.string ByteArray.empty,.slice none 0 0,.int .i64 0,.int .i64 0],.int .i64 0,.int .i64 0,.int .i64 0,.int .i64 0] rfl (by kernel_rfl) (by kernel_rfl) (by kernel_rfl)
   (OpenSpec.preRow_of_cond 8 hx (by kernel_rfl) (λk hk=>by cases hk) (by kernel_rfl) (laid_met os))) ?_
 intro W base args ds gs before ha hW _ _ _ hL _ _;exact contract H enc W base args ds gs before ha hW hL
theorem plain(f:FuncId)(fn:Func)(hf:Tryz.pinned.checked.prog.funcNamed "nameplan/nameplanlaw34.WishTrust" =some f)(hh:Tryz.pinned.checked.prog.funcs[f]? =some fn) :
 true=Tryz.pinned.checked.prog.looks []/\ ∀(j:Nat) t,fn.params[j]? =some t->Tryz.pinned.checked.prog.wantsStandIn t=false:=by
 obtain rfl:f=5:=Option.some.inj ((show Tryz.prog.funcNamed "nameplan/nameplanlaw34.WishTrust" =some 5 by kernel_rfl).symm.trans hf) |>.symm
 obtain rfl:fn=Tryz.f5:=(Option.some.inj (Tryz.func5.symm.trans hh)).symm;refine⟨by kernel_rfl,λj t ht=>?_⟩;rw[Tryz.params5]at ht;rcases j with _|_|_|_|_|_|j
 .obtain rfl:t=29:=by simpa using ht.symm
  exact(show Tryz.prog.wantsStandIn 29=false by kernel_rfl)
 .obtain rfl:t=33:=by simpa using ht.symm
  exact(show Tryz.prog.wantsStandIn 33=false by kernel_rfl)
 .obtain rfl:t=3:=by simpa using ht.symm
  exact(show Tryz.prog.wantsStandIn 3=false by kernel_rfl)
 .obtain rfl:t=3:=by simpa using ht.symm
  exact(show Tryz.prog.wantsStandIn 3=false by kernel_rfl)
 .obtain rfl:t=3:=by simpa using ht.symm
  exact(show Tryz.prog.wantsStandIn 3=false by kernel_rfl)
 .obtain rfl:t=3:=by simpa using ht.symm
  exact(show Tryz.prog.wantsStandIn 3=false by kernel_rfl)
 .simp at ht
end Go.Proofs.YtodofogcincleaaGreatDoor.wishTrust
