/-
  One text.
-/
import Derived.Test.YtjojkakjmoefaaaGreatDoorKaM
import Derived.WideShapes
import Derived.RowKit
import GoSem.ClaimJoined
set_option linter.all false

namespace NQ
open Go Go.RowKit Go.WideShapes
variable {H:Type}{cx:Cx}{W:World}{r:Reach}{base f:Nat}{t:TypeId}{v:Value}{ps:List MemPlace}{es:List T}
def OJ{enc:TypeId×Value->H}(N:bC cx){d:DataW H}{J:Array Field}
 (V:shape cx.ty f t=some es) (X:cx.P.underlying t=some (.struct J)) (Y:Value.okWide cx.P W r base t v) (h:DataW.Trod enc cx.P W 0 (λ_=>true) true t v d ps) :
 ∃ds,Fits es ds/\Rep W (λ_=>False) (.agg ds) v:=by
 obtain⟨cs,rfl,_⟩:=okWide_struct X Y;obtain⟨D,T⟩:=h;obtain⟨ds,h1,G,K,_⟩:=vr N D f t _ _ es T V;have G:cs.size=ds.length:=by simpa [Value.cells] using G
 refine⟨ds,h1,.agg _ _ G h1.one λj x Z=>?_⟩;obtain⟨u,I,U⟩:=K j x Z;have I:cs[j]? =some u:=by simpa [Value.cells] using I
 have:cs.getD j Go.undef=u:=by simp[bU,I]
 rw[this];exact U
def OK{enc:TypeId×Value->H}(I:bC cx){d:DataW H}{e:T}
 (N:shape cx.ty f t=some [e]) (U:v.cells= #[v]) (h:DataW.Trod enc cx.P W 0 (λ_=>true) true t v d ps) :
 ∃x,Fit e x/\Rep W (λ_=>False) x v:=by
 obtain⟨j,J⟩:=h;obtain⟨ds,h1,X,G,_⟩:=vr I j f t _ _ [e] J N;obtain⟨x,t',rfl,V,_⟩:=h1.cons;obtain⟨u,D,K⟩:=G 0 x rfl;rw[U]at D;simp at D;subst D;exact⟨x,V,K⟩
def arg_str{enc:TypeId×Value->H}(j:bC cx){d:DataW H}
 (G:shape cx.ty f t=some [.str]) (I:cx.P.underlying t=some .string) (J:Value.okWide cx.P W r base t v) (h:DataW.Trod enc cx.P W 0 (λ_=>true) true t v d ps) :
 ∃s,Rep W (λ_=>False) (.str s) v:=by
 obtain⟨s,rfl⟩:=okWide_string I J;obtain⟨x,K,D⟩:=OK j G rfl h;cases K;exact⟨_,D⟩
def Zp{enc:TypeId×Value->H}(j:bC cx){d:DataW H}{k:IntKind}
 (G:shape cx.ty f t=some [.int k]) (I:cx.P.underlying t=some (.int k)) (J:Value.okWide cx.P W r base t v) (h:DataW.Trod enc cx.P W 0 (λ_=>true) true t v d ps) :
 ∃n,(Lit.int k n).wf=true/\Rep W (λ_=>False) (.int k n) v:=by
 obtain⟨s,rfl⟩:=okWide_int I J;obtain⟨x,K,D⟩:=OK j G rfl h;cases K;exact⟨_,by assumption,D⟩
def pS{α:Type}{f:α->List D}(H:∀r,Fits es r-> ∃x,r=f x){d:D}(h:Fit (.slice es) d):∃l:List α,d= .slice es.length (l.map f):=by
 cases h with|slice _ rows I G h =>
  have j:∀r∈rows,∃x,r=f x:=λr j=>H r ⟨G r j,h r j⟩
  clear I G h;induction rows with
  |nil=>exact⟨[],rfl⟩
  |cons r rows K =>
   obtain⟨l,G⟩:=K λx J=>j x<|aZ _ J
   obtain⟨x,rfl⟩:=j r (List.mem_cons_self ..);cases G;exact⟨x::l,rfl⟩
def pK{d:D}(h:Fit .str d):∃s,d= .str s:=by cases h;exact⟨_,rfl⟩
def fR{k:IntKind}{d:D}(h:Fit (.int k) d):∃n,d= .int k n:=by cases h;exact⟨_,rfl⟩
def WW(hT:bC cx){n:String}{G:DataW Unit}{g:Nat}{cells:List D}(T:∀x cs,cx.gl x=some cs->x=g/\cs=cells)(Y:cx.P.globalNamed n=some g)(ht:(cx.P.globals[g]?).map (·.type)=some t)
 (hs:shape cx.ty f t=some es) (hl:lits G=some cells) (H:cells.all D.gP=true) (hh:G.handleName?.isSome=false) (h:laidMetH cx.P [(n,G)] W):jO cx W:=by
 have h1:laidMet cx.P [(n,G)] W:=by
  unfold laidMetH at h;simp only[List.filter_cons,hh,List.filter_nil,eV,if_false]at h;exact h
 obtain⟨ps,⟨g',t',cs,I,p,q,U,V,J,Z,_⟩,_⟩:=h1;rw[Y]at U;cases U;rw[ht]at V;cases V;obtain⟨ds,b1,b2,b3,b4⟩:=vr hT I f t _ _ es Z hs;have N:=b4 _ hl;subst N;intro x K hx;obtain⟨rfl,rfl⟩:=T x K hx;simp only[World.var?,Y,Option.bind_some]at J;split at J
 .rename_i c ty fr X;cases J;refine⟨(bP.1 X).1,H,λj d hj=>?_⟩;obtain⟨u,hu,hr⟩:=b3 j d hj;refine⟨u,?_,hr⟩;simp only[World.cell?,X,Option.isSome_none,eV,if_false];simpa using hu
 .cases J
def ZK{f:FuncId}{ds:List D}(h:Fn cx f ds (.d<|.bool true) []){vs:Array Value}(T:jO cx W)(J:vs.size=ds.length)(G:∀(j:Nat) x,ds[j]? =some x->Rep W (λ_=>False) x (vs.getD j Go.undef)) :
 Calls cx.P f vs W λe K =>e= .returned (.bool true)/\Below W.heap.size W K :=
 (h.2 (λ_=>False) W vs (λb H=>H.elim) T (λg c U=>λh=>h) J G).mono λe K ⟨u,τ,N,H,_,I⟩=>by
  cases I with|d _ _ I=>rw[XS I]at N;exact⟨N,H⟩
