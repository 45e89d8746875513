/-
  One text.
-/
import Derived.Test.YtodofogcincleaaGreatDoorKaM
import Derived.WideShapes
import Derived.RowKit
import GoSem.ClaimJoined
set_option linter.all false
namespace NQ
open Go Go.RowKit Go.WideShapes
theorem IS{H:Type}{enc:TypeId×Value->H}{cx:Cx}(hT:bD cx){W:World}{r:Reach}{base f:Nat}{t:TypeId}{v:Value}{d:DataW H}{ps:List MemPlace}{es:List T}{fs:Array Field}
 (hs:shape cx.ty f t=some es) (ht:cx.P.underlying t=some (.struct fs)) (hv:Value.okWide cx.P W r base t v) (h:DataW.Trod enc cx.P W 0 (λ_=>true) true t v d ps) :
 ∃ds,Fits es ds/\Rep W (λ_=>False) (.agg ds) v:=by
 obtain⟨cs,rfl,_⟩:=okWide_struct ht hv;obtain⟨fuel,hf⟩:=h;obtain⟨ds,h1,h2,h3,_⟩:=rY hT fuel f t _ _ es hf hs;have h2:cs.size=ds.length:=by simpa [Value.cells] using h2
 refine⟨ds,h1,.agg _ _ h2 h1.one λj x hx=>?_⟩;obtain⟨u,hu,hr⟩:=h3 j x hx;have hu:cs[j]? =some u:=by simpa [Value.cells] using hu
 have:cs.getD j Go.undef=u:=by simp[bM,hu]
 rw[this];exact hr
theorem Sj{H:Type}{enc:TypeId×Value->H}{cx:Cx}(hT:bD cx){W:World}{f:Nat}{t:TypeId}{v:Value}{d:DataW H}{ps:List MemPlace}{e:T}
 (hs:shape cx.ty f t=some [e]) (hv:v.cells= #[v]) (h:DataW.Trod enc cx.P W 0 (λ_=>true) true t v d ps) :
 ∃x,Fit e x/\Rep W (λ_=>False) x v:=by
 obtain⟨fuel,hf⟩:=h;obtain⟨ds,h1,h2,h3,_⟩:=rY hT fuel f t _ _ [e] hf hs;obtain⟨x,t',rfl,hx,_⟩:=h1.cons;obtain⟨u,hu,hr⟩:=h3 0 x rfl;rw[hv]at hu;simp at hu;subst hu;exact⟨x,hx,hr⟩
theorem Si{H:Type}{enc:TypeId×Value->H}{cx:Cx}(hT:bD cx){W:World}{r:Reach}{base f:Nat}{t:TypeId}{v:Value}{d:DataW H}{ps:List MemPlace}{k:IntKind}
 (hs:shape cx.ty f t=some [.int k]) (ht:cx.P.underlying t=some (.int k)) (hv:Value.okWide cx.P W r base t v) (h:DataW.Trod enc cx.P W 0 (λ_=>true) true t v d ps) :
 ∃n,(Lit.int k n).wf=true/\Rep W (λ_=>False) (.int k n) v:=by
 obtain⟨s,rfl⟩:=okWide_int ht hv;obtain⟨x,hx,hr⟩:=Sj hT hs rfl h;cases hx;exact⟨_,by assumption,hr⟩
theorem nA{α:Type}{f:α->List D}{es:List T}(hf:∀r,Fits es r-> ∃x,r=f x){d:D}(h:Fit (.slice es) d):∃l:List α,d= .slice es.length (l.map f):=by
 cases h with|slice _ rows hm hl h =>
  have hr:∀r∈rows,∃x,r=f x:=λr hr=>hf r ⟨hl r hr,h r hr⟩
  clear hm hl h;induction rows with
  |nil=>exact⟨[],rfl⟩
  |cons r rows ih =>
   obtain⟨l,hl⟩:=ih λx hx=>hr x (bC _ hx)
   obtain⟨x,rfl⟩:=hr r (List.mem_cons_self ..);cases hl;exact⟨x::l,rfl⟩
theorem nq{d:D}(h:Fit .str d):∃s,d= .str s:=by cases h;exact⟨_,rfl⟩
theorem eT{k:IntKind}{d:D}(h:Fit (.int k) d):∃n,d= .int k n:=by cases h;exact⟨_,rfl⟩
theorem PY{cx:Cx}(hT:bD cx){W:World}{n:String}{lay:DataW Unit}{g f:Nat}{t:TypeId}{es:List T}{cells:List D}(hp:∀x cs,cx.gl x=some cs->x=g/\cs=cells)(hn:cx.P.globalNamed n=some g)(ht:(cx.P.globals[g]?).map (·.type)=some t)
 (hs:shape cx.ty f t=some es) (hl:lits lay=some cells) (ha:cells.all D.fG=true) (hh:lay.handleName?.isSome=false) (h:laidMetH cx.P [(n,lay)] W):jC cx W:=by
 have h1:laidMet cx.P [(n,lay)] W:=by
  unfold laidMetH at h;simp only[List.filter_cons,hh,List.filter_nil,fR,if_false]at h;exact h
 obtain⟨ps,⟨g',t',cs,fuel,p,q,a1,a2,a3,a4,_⟩,_⟩:=h1;rw[hn]at a1;cases a1;rw[ht]at a2;cases a2;obtain⟨ds,b1,b2,b3,b4⟩:=rY hT fuel f t _ _ es a4 hs;have ho:=b4 _ hl;subst ho;intro x hi hx;obtain⟨rfl,rfl⟩:=hp x hi hx;simp only[World.var?,hn,Option.bind_some]at a3;split at a3
 .rename_i c ty fr hc;cases a3;refine⟨(bI.1 hc).1,ha,λj d hj=>?_⟩;obtain⟨u,hu,hr⟩:=b3 j d hj;refine⟨u,?_,hr⟩;simp only[World.cell?,hc,Option.isSome_none,fR,if_false];simpa using hu
 .cases a3
theorem SA{cx:Cx}{f:FuncId}{ds:List D}(h:Fn cx f ds (.d (.bool true)) []){W:World}{vs:Array Value}(hG:jC cx W)(hq:vs.size=ds.length)(hd:∀(j:Nat) x,ds[j]? =some x->Rep W (λ_=>False) x (vs.getD j Go.undef)) :
 Calls cx.P f vs W λe W' =>e= .returned (.bool true)/\Below W.heap.size W W' :=
 (h.2 (λ_=>False) W vs (λb hb=>hb.elim) hG (λg c hg=>λh=>h) hq hd).mono λe W' ⟨u,τ,he,hb,_,hr⟩=>by
  cases hr with|d _ _ hr=>rw[QR hr]at he;exact⟨he,hb⟩
end NQ
