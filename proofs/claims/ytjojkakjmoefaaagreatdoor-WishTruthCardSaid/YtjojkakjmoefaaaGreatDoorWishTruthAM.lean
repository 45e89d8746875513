/-
  One text.
-/
import Derived.Test.YtjojkakjmoefaaaGreatDoorCards
import Derived.Test.YtjojkakjmoefaaaGreatDoorTie
import Derived.Test.YtjojkakjmoefaaaGreatDoorKgM
import Derived.Test.YtjojkakjmoefaaaGreatDoorMYzp
import Derived.ProofKit
import Derived.Carry
import Derived.Deep.DeepHandedRow
import Derived.Lib.LaidTab
import Derived.SevenTiedAt
set_option linter.all false
set_option maxRecDepth 100000
namespace Go.Proofs.YtjojkakjmoefaaaGreatDoor.wishTruth
open Go.ChangeShapes Go.WideShapes Go.ChangeAt Go.RowKit NQ
theorem contract(H:Type)(enc:TypeId×Value->H)(W:World)(base:Nat)(args:Array Value)(ds gs:List (DataW H))(I:List MemPlace)
 (D:∀(j:Nat) t v,Tryz.f3.params[j]? =some t->args[j]? =some v->Value.okWide Tryz.prog W .any base t v)
 (hW:DataW.Whole enc Tryz.prog Tryz.f3.params.toList Rows.wishTruthSpec.vars false W args.toList ds gs I) (hL:laidMetH Tryz.prog Rows.wishTruthRow.laid W) :
 Calls Tryz.prog 3 args W λe W' => ∃v,e= .returned v/\Rows.wishTruthSpec.post enc Tryz.prog Tryz.f3 false true false false W args v W' :=by
 have Y :=hW;obtain⟨p,q,N,hV,rfl,hn,ho⟩:=hW;have hA:DataW.TrodAll enc Tryz.prog W 0 (λ_=>true) true Tryz.f3.params.toList args.toList ds p:=N;rw[Tryz.params3]at hA D;obtain⟨v0,hp,d0,hg,p0,q0,Z,rfl,rfl,h0,r0⟩:=trodAll_cons hA;obtain⟨v1,hq,d1,hh,p1,q1,rfl,rfl,rfl,h1,r1⟩:=trodAll_cons r0;obtain⟨v2,hr,d2,hi,p2,q2,rfl,rfl,rfl,U,r2⟩:=trodAll_cons r1;obtain⟨v3,hs,d3,hj,p3,q3,rfl,rfl,rfl,V,r3⟩:=trodAll_cons r2;obtain⟨v4,ht,d4,hl,p4,q4,rfl,rfl,rfl,X,r4⟩:=trodAll_cons r3;obtain⟨rfl,rfl,rfl⟩:=trodAll_nil r4;obtain rfl:args= #[v0,v1,v2,v3,v4]:=by cases args;simp_all
 obtain⟨rfl,rfl⟩:=trodVars_none hV;have ha:∀x∈p0,x.block<W.heap.size:=by obtain⟨m,J⟩:=h0;exact DataW.trod_lt m _ _ _ J
 obtain⟨x0,e0⟩:=SQ (D 0 29 v0 rfl rfl) h0;have hb:∀x∈p1,x.block<W.heap.size:=by obtain⟨m,J⟩:=h1;exact DataW.trod_lt m _ _ _ J
 obtain⟨x1,e1⟩:=VP (D 1 33 v1 rfl rfl) h1;have hc:∀x∈p2,x.block<W.heap.size:=by obtain⟨m,J⟩:=U;exact DataW.trod_lt m _ _ _ J
 obtain⟨x2,b2,e2⟩:=YH (D 2 3 v2 rfl rfl) U;have hd:∀x∈p3,x.block<W.heap.size:=by obtain⟨m,J⟩:=V;exact DataW.trod_lt m _ _ _ J
 obtain⟨x3,b3,e3⟩:=YH (D 3 3 v3 rfl rfl) V;have hf:∀x∈p4,x.block<W.heap.size:=by obtain⟨m,J⟩:=X;exact DataW.trod_lt m _ _ _ J
 obtain⟨x4,e4⟩:=ab0 (D 4 9 v4 rfl rfl) X;clear N;have T:=ZK (LV x0 x1 x2 b2 x3 b3 x4) (QS hL) (vs:= #[v0,v1,v2,v3,v4]) rfl λj x K=>by
  rcases j with _|_|_|_|_|j
  .cases K;exact e0
  .cases K;exact e1
  .cases K;exact e2
  .cases K;exact e3
  .cases K;exact e4
  .simp at K
 refine T.mono λe W' ⟨he,G⟩=>?_
 subst he
 exact⟨_,rfl,_,_,_,[],_,[],Y,trodAll_mk1 (shut_bool Tryz.underlying4 _),(trodAll_cons_mk (Below.trod laidOut (by kernel_rfl) (of_decide_eq_true (by kernel_rfl)) h0 G ha) (trodAll_cons_mk (Below.trod laidOut (by kernel_rfl) (of_decide_eq_true (by kernel_rfl)) h1 G hb) (trodAll_cons_mk (Below.trod laidOut (by kernel_rfl) (of_decide_eq_true (by kernel_rfl)) U G hc) (trodAll_cons_mk (Below.trod laidOut (by kernel_rfl) (of_decide_eq_true (by kernel_rfl)) V G hd) (trodAll_cons_mk (Below.trod laidOut (by kernel_rfl) (of_decide_eq_true (by kernel_rfl)) X G hf) trodAll_mk0))))),rfl,G.frame _,λh=>by cases h⟩
noncomputable def laidWorld (os:Os):World :=
 { World.holding Tryz.prog os ⟨#[], #[], []⟩ with heap := (World.holding Tryz.prog os ⟨#[], #[], []⟩).heap.modify 0 fun
     | .cells _ t frozen=> .cells (zQ.map fun| .int k n=>Value.int k n| .bool b=>Value.bool b|_=>Go.undef).toArray t frozen
     |o=>o}
theorem laid_met(os:Os):laidMet Tryz.prog Rows.wishTruthRow.laid ((laidWorld os).forCall (λ_ _=>0) ⟨#[], #[.agg #[.slice none 0 0,.slice none 0 0,.string ByteArray.empty,.int .i64 0,.int .i64 0,.slice none 0 0,.slice none 0 0],.agg #[.int .i64 0,.string ByteArray.empty,.string ByteArray.empty,.slice none 0 0,.int .i64 0,.int .i64 0],.int .i64 0,.int .i64 0,.string ByteArray.empty],[]⟩).memory :=
 laidMet_of_run' 8 (by kernel_rfl) (by kernel_rfl)
theorem reads(os:Os){H:Type}(enc:TypeId×Value->H):∃places,DataW.whole enc Tryz.prog ((laidWorld os).forCall (λ_ _=>0) ⟨#[], #[.agg #[.slice none 0 0,.slice none 0 0,.string ByteArray.empty,.int .i64 0,.int .i64 0,.slice none 0 0,.slice none 0 0],.agg #[.int .i64 0,.string ByteArray.empty,.string ByteArray.empty,.slice none 0 0,.int .i64 0,.int .i64 0],.int .i64 0,.int .i64 0,.string ByteArray.empty],[]⟩).memory Tryz.f3.params.toList Rows.wishTruthSpec.vars false (#[.agg #[.slice none 0 0,.slice none 0 0,.string ByteArray.empty,.int .i64 0,.int .i64 0,.slice none 0 0,.slice none 0 0],.agg #[.int .i64 0,.string ByteArray.empty,.string ByteArray.empty,.slice none 0 0,.int .i64 0,.int .i64 0],.int .i64 0,.int .i64 0,.string ByteArray.empty]:Array Value).toList 8=some ([.agg [.nil,.nil,.agg [.lit (.string []),.lit (.int .i64 0),.lit (.int .i64 0),.nil],.nil],.agg [.lit (.int .i64 0),.lit (.string []),.lit (.string []),.nil,.agg [.lit (.int .i64 0),.lit (.int .i64 0)]],.lit (.int .i64 0),.lit (.int .i64 0),.lit (.string [])],[],places) :=
 ⟨[],by kernel_rfl⟩
theorem lifted(os:Os)(j:os.Started)(H:Type)(enc:TypeId×Value->H)(F:Stop.Interp) :
 ReturnsInHanded {} Tryz.checked os 3 .any ((OpenSpec.ofChange Rows.wishTruthSpec).preRow enc Tryz.prog Tryz.f3 Rows.wishTruthRow.domain false Rows.wishTruthRow.laid) (((OpenSpec.ofChange Rows.wishTruthSpec).at F).post enc Tryz.prog Tryz.f3 false true false false):=by
 obtain⟨places,T⟩:=reads os enc;refine returnsInHanded_of_row (C:=Tryz.checked) (s:=OpenSpec.ofChange Rows.wishTruthSpec) own j (by kernel_rfl) Tryz.func3
  (witness_row_at (enc:=enc) (C:=Tryz.checked) false (laidWorld os) #[.agg #[.slice none 0 0,.slice none 0 0,.string ByteArray.empty,.int .i64 0,.int .i64 0,.slice none 0 0,.slice none 0 0],.agg #[.int .i64 0,.string ByteArray.empty,.string ByteArray.empty,.slice none 0 0,.int .i64 0,.int .i64 0],.int .i64 0,.int .i64 0,.string ByteArray.empty] rfl (by kernel_rfl) (by kernel_rfl) (by kernel_rfl)
   (OpenSpec.preRow_of_cond 8 T (by kernel_rfl) (λk N=>by cases N) (by kernel_rfl) (laid_met os))) ?_
 intro W base args ds I D G K _ _ _ J _ _;exact contract H enc W base args ds I D G K J
theorem plain(f:FuncId)(fn:Func)(H:Tryz.pinned.checked.prog.funcNamed "nameplan/nameplanlaw34.WishTruth" =some f)(G:Tryz.pinned.checked.prog.funcs[f]? =some fn) :
 true=Tryz.pinned.checked.prog.looks []/\ ∀(j:Nat) t,fn.params[j]? =some t->Tryz.pinned.checked.prog.wantsStandIn t=false:=by
 obtain rfl:f=3:=Option.some.inj ((show Tryz.prog.funcNamed "nameplan/nameplanlaw34.WishTruth" =some 3 by kernel_rfl).symm.trans H) |>.symm
 obtain rfl:fn=Tryz.f3:=(Option.some.inj (Tryz.func3.symm.trans G)).symm;refine⟨by kernel_rfl,λj t D=>?_⟩;rw[Tryz.params3]at D;rcases j with _|_|_|_|_|j
 .obtain rfl:t=29:=by simpa using D.symm
  exact(show Tryz.prog.wantsStandIn 29=false by kernel_rfl)
 .obtain rfl:t=33:=by simpa using D.symm
  exact(show Tryz.prog.wantsStandIn 33=false by kernel_rfl)
 .obtain rfl:t=3:=by simpa using D.symm
  exact(show Tryz.prog.wantsStandIn 3=false by kernel_rfl)
 .obtain rfl:t=3:=by simpa using D.symm
  exact(show Tryz.prog.wantsStandIn 3=false by kernel_rfl)
 .obtain rfl:t=9:=by simpa using D.symm
  exact(show Tryz.prog.wantsStandIn 9=false by kernel_rfl)
 .simp at D
