/-
  One text.
-/
import Derived.Test.YtjojkakjmoefaaaGreatDoorQdM
import Derived.Laws.Cells
import Derived.Laws.Entries
import Derived.Laws.Small
import Derived.Laws.StructEq
import Derived.Lib.SliceRun
set_option linter.all false

namespace NQ
open Go Go.RowKit
def dx(b o n:Nat):Addr.add ⟨b,o,none⟩ n=⟨b,o+n,none⟩:=by
 unfold Addr.add;split
 .rename_i h;subst h;rfl
 .rfl
section
variable {P:Program} {w:World} {O L:Nat->Prop} {σ:Nat->Value}
def Jc{x r:AV}{n:Nat}(h:Jb x n=some r){u:Value}(H:aC w O L σ x u):∃b o,u= .pointer (some ⟨b,o,none⟩)/\aC w O L σ r (.pointer<|some ⟨b,o+n,none⟩):=by
 unfold Jb at h;split at h
 .cases h;cases H with|ptr s off b I J=>exact⟨b,_,rfl,.ptr _ _ b I J⟩
 .cases h;cases H with|dy s size i off b m cap V I J=>exact⟨b,_,rfl,by rw[Nat.add_assoc,Nat.add_assoc];exact .dy _ _ _ _ b m cap V I J⟩
 .cases h;cases H with|d _ _ H=>cases H with|ptr cells B off us T N G h1 K =>
   refine⟨B,off,rfl,.d _ _ (.ptr _ B (off+n) (λj=>us<|n+j) T N (λd U=>G d<|List.mem_of_mem_drop U) (λj d D=>?_) λj d D=>?_)⟩
   .rw[List.getElem?_drop]at D;rw[Nat.add_assoc];exact h1 _ d D
   .rw[List.getElem?_drop]at D;exact K _ d D
 .cases h
def sw{d:TypeDesc}{j:List<|Nat×TypeId}(h:kindOf d= .struct j):∃g,d= .struct g/\j=g.toList.map λf=>(f.offset,f.type):=by
 cases d<;>simp[kindOf]at h;rename_i g;exact⟨g,rfl,h.symm⟩
def cd{d:TypeDesc}{e:TypeId}(h:kindOf d= .slice e):d= .slice e:=by
 cases d<;>simp[kindOf]at h;rw[h]
def zC{d:TypeDesc}{n:Nat}{e:TypeId}(h:kindOf d= .array n e):d= .array n e:=by
 cases d<;>simp[kindOf]at h;rw[h.1,h.2]
def ga{d:TypeDesc}(h:kindOf d= .str):d= .string:=by
 cases d<;>simp[kindOf]at h;rfl
def ql{d:TypeDesc}{k:IntKind}(h:kindOf d= .int k):d= .int k:=by
 cases d<;>simp[kindOf]at h;rw[h]
def vN{d:TypeDesc}(h:kindOf d= .bool):d= .bool:=by
 cases d<;>simp[kindOf]at h;rfl
def kK{d:TypeDesc}{k e:TypeId}(h:kindOf d= .map k e):d= .map k e:=by
 cases d<;>simp[kindOf]at h;rw[h.1,h.2]
def Fw(cx:Cx)(s:TypeId)(f:Nat):Option (Nat×TI) :=
 match cx.ty s with
 |some ⟨_,_,.struct j,_⟩=>(match j[f]? with|some (off,D)=>(match cx.ty D with|some i=>some (off,i)|none=>none)|none=>none)
 |_=>none
def QJ{cx:Cx}(T:bC cx){s:TypeId}{f off:Nat}{i:TI}(h:Fw cx s f=some (off,i)) :
 ∃g D,cx.P.underlying s=some (.struct g)/\g[f]? =some D/\D.offset=off/\cx.ty D.type=some i:=by
 unfold Fw at h;split at h
 .rename_i W _ V;split at h
  .rename_i o X G;split at h
   .rename_i j U;cases h;obtain⟨J,I,z,h1,K,N,_⟩:=T s _ V;obtain⟨g,rfl,rfl⟩:=sw N;rw[bc]at G;cases H:g.toList[f]? with
    |none=>rw[H]at G;cases G
    |some D=>rw[H]at G;cases G;exact⟨g,D,K,by rw[<- bE];exact H,rfl,U⟩
   .cases h
  .cases h
 .cases h
def xy(cx:Cx)(s:TypeId)(x:AV)(f:Nat):Option AV :=
 match Fw cx s f with
 |some (off,i)=>(match Nat.beq i.size 0 with|false=>Jb x off|true=>none)
 |none=>none
def Fv{cx:Cx}(H:bC cx){s:TypeId}{x r:AV}{f:Nat}(h:xy cx s x f=some r){u:Value}(W:aC w O L σ x u) :
 ∃z,(Instr.fieldAt s u f).run cx.P w= .ok z w/\aC w O L σ r z:=by
 unfold xy at h;split at h
 .rename_i off i U;split at h
  .rename_i I;obtain⟨g,J,h1,K,N,T⟩:=QJ H U;obtain⟨j,G,Z,X,_,_,Y,_⟩:=H _ _ T;obtain⟨b,o,rfl,V⟩:=Jc h W;refine⟨_,?_,V⟩;have D:j.size≠0:=by rw[Y];intro e;rw[e]at I;cases I
   simp[Instr.fieldAt,run_underlying h1,K,Instr.sureAddr,fieldPlace,Go.sizeOf,typeInfo,X,D,N,dx]
  .cases h
 .cases h
def ym(cx:Cx)(t:TypeId)(cs:List AV):Option AV :=
 match cx.ty t with
 |some i=>(match i.kind.isAgg with
  |true=>(match Nat.ble i.size cs.length with|true=>some<|.agg<|cs.take i.size|false=>none)
  |false=>(match cs with| .undef::_=>none|c::_=>some c|[]=>none))
 |none=>none
def dU{cx:Cx}(J:bC cx){t:TypeId}{i:TI}(h:cx.ty t=some i):(isAgg t).run cx.P w= .ok i.kind.isAgg w/\(Go.sizeOf t).run cx.P w= .ok i.size w:=by
 obtain⟨D,j,z,h1,G,H,I,_⟩:=J t i h;refine⟨?_,by simp[Go.sizeOf,typeInfo,h1,I]⟩;rw[<- H];cases j<;>simp[isAgg,run_underlying G,kindOf,K.isAgg]
def oA{cx:Cx}(N:bC cx){t:TypeId}{cs:List AV}{r:AV}(h:ym cx t cs=some r){b o:Nat}(us:Nat->Value)
 (h1:∀j c,cs[j]? =some c->w.cell? ⟨b,o+j,none⟩=some (us j)) (J:∀j c,cs[j]? =some c->aC w O L σ c (us j)) :
 ∃z,(Instr.loadAt t<|.pointer<|some ⟨b,o,none⟩).run cx.P w= .ok z w/\aC w O L σ r z:=by
 unfold ym at h;split at h
 .rename_i i T;obtain⟨K,V⟩:=dU (w:=w) N T;split at h
  .rename_i D;split at h
   .rename_i H;cases h;have H:i.size<=cs.length:=bA H;have U:=run_loadCells (P:=cx.P) (w:=w) ⟨b,o,none⟩ i.size us (λj G=>by
     rw[dx];exact h1 j _<|ao<|by omega)
    refine⟨.agg ((List.range i.size).map us).toArray,by simp[Instr.loadAt,Instr.sureAddr,loadVar,K,D,V,U],.agg _ _ (by simp;omega) λj c G=>?_⟩;rw[List.getElem?_take]at G;split at G
    .rename_i I;have:((List.range i.size).map us).toArray.getD j Go.undef=us j:=by simp[I]
     rw[this];exact J j c G
    .cases G
   .cases h
  .rename_i D;split at h
   .cases h
   .rename_i c tl _;cases h;refine⟨us 0,?_,J 0 r rfl⟩;have:=h1 0 r rfl;simp[Instr.loadAt,Instr.sureAddr,loadVar,K,D];rw[show o+0=o from rfl]at this;simp[load,Sem.run,this]
   .cases h
 .cases h
end
def isBool(cx:Cx)(t:TypeId):Bool:=match cx.ty t with|some ⟨_,_,.bool,_⟩=>true|_=>false
def OR(op:BinOp)(a b:Bool):Option D :=
 match op with
 | .eql=>some<|.bool<|a==b
 | .neq=>some<|.bool (!(a==b))
 |_=>none
def Xg(cx:Cx)(t:TypeId):Bool:=match cx.ty t with|some ⟨_,_,.slice _,_⟩=>true|_=>false
def abv(cx:Cx)(op:BinOp)(t:TypeId)(rows:List<|List D):Option AV :=
 match op,Xg cx t with
 | .eql,true=>some<|.maybe rows.isEmpty
 |_,_=>none
def dO:List K->List AV->List AV->Option Bool
 |[],[],[]=>some true
 | .str::j,.d (.str a)::cs,.d (.str b)::ds=>(match dO j cs ds with|some r=>some<|(a==b)&&r|none=>none)
 | .bool::j,.d (.bool a)::cs,.d (.bool b)::ds=>(match dO j cs ds with|some r=>some<|(a==b)&&r|none=>none)
 | .int _::j,.d (.int k a)::cs,.d (.int D b)::ds=>(match decide (k=D),dO j cs ds with|true,some r=>some<|(a==b)&&r|_,_=>none)
 |_,_,_=>none
def aa1(op:BinOp)(b:Bool):Option AV :=
 match op with
 | .eql=>some<|.d<|.bool b
 | .neq=>some<|.d<|.bool (!b)
 |_=>none
def CF{P:Program}{w:World}{t:TypeId}{d:TypeDesc}(h:P.underlying t=some d)(j:(kindOf d).isAgg=false){xs:Array Value}{o:Nat}{v:Value}(D:xs[o]? =some v):(part t xs o).run P w= .ok v w:=by
 cases d<;>simp[kindOf,K.isAgg]at j<;>simp[part,isAgg,run_underlying h,D]
def zf{P:Program}{w:World}{O L:Nat->Prop}{σ:Nat->Value}{n:Nat}{xs ys:Array Value}:∀(l:List Field) (W:List K) (i:Nat) (cs ds:List AV) (b:Bool),l.length=W.length ->
 (∀(j:Nat) f k,l[j]? =some f->W[j]? =some k->f.offset=i+j/\f.name≠ "_" /\ ∃J,P.underlying f.type=some J/\kindOf J=k)->dO W cs ds=some b ->
 (∀(j:Nat) c,cs[j]? =some c-> ∃u,xs[i+j]? =some u/\aC w O L σ c u)->(∀(j:Nat) c,ds[j]? =some c-> ∃u,ys[i+j]? =some u/\aC w O L σ c u) ->
 (Op.eqFields (n+1) xs ys l).run P w= .ok b w
 |[],[],i,cs,ds,b,_,_,H,_,_=>by
  cases cs<;>cases ds<;>simp[dO]at H;subst H;simp[Op.eqFields]
 |[],_::_,_,_,_,_,hl,_,_,_,_=>by simp at hl
 |_::_,[],_,_,_,_,hl,_,_,_,_=>by simp at hl
 |f::l,k::W,i,cs,ds,b,hl,hf,H,hx,hy=>by
  obtain⟨ho,hn,J,Y,V⟩:=hf 0 f k rfl rfl
  have step : ∀ {c e : AV} {D G : List AV} {r q : Bool} , cs = c :: D -> ds = e :: G -> (kindOf J).isAgg = false -> (∀ u v, aC w O L σ c u -> aC w O L σ e v -> (Op.equalIn (n + 1) f.type u v).run P w = .ok q w) ->
      dO W D G =some r->b=(q&&r)->(Op.eqFields (n+1) xs ys<|f::l).run P w= .ok b w:=by
   rintro c e D G r q rfl rfl X heq T rfl;obtain⟨u,N,ru⟩:=hx 0 c rfl;obtain⟨v,U,rv⟩:=hy 0 e rfl;have ih:=zf (n:=n) (xs:=xs) (ys:=ys) l W (i+1) D G r (by simpa using hl) (λj f' k' h1 h2=>by
    obtain⟨a1,a2⟩:=hf (j+1) f' k' h1 h2;exact⟨by omega,a2⟩) T (λj c h=>by
    obtain⟨u,N,ru⟩:=hx (j+1) c h;exact⟨u,by rw[<- N];congr 1;omega,ru⟩) (λj c h=>by
    obtain⟨u,N,ru⟩:=hy (j+1) c h;exact⟨u,by rw[<- N];congr 1;omega,ru⟩)
   simp only[Op.eqFields,if_pos hn,Sem.run_bind];rw[CF (w:=w) Y X (xs:=xs) (o:=f.offset) (v:=u)<|by rw[ho];exact N];simp only[Result.andThen_ok];rw[CF (w:=w) Y X (xs:=ys) (o:=f.offset) (v:=v)<|by rw[ho];exact U];simp only[Result.andThen_ok];rw[heq u v ru rv];cases q
   .simp[Result.andThen_ok]
   .simpa [Result.andThen_ok] using ih
  unfold dO at H;split at H<;>first|(cases H;done)|skip
  .rename_i I;cases I
  .rename_i ha a D b' G I;cases I;split at H
   .rename_i r T;refine step rfl rfl (by rw[V];rfl) (λu v N U=>?_) T (Option.some.inj H).symm;obtain⟨p,rfl,rfl⟩:=N.str;obtain⟨q,rfl,rfl⟩:=U.str;rw[run_equalIn_string w n f.type p q<|by rw[Y,ga V]];rw[ByteArray.toList_eq,ByteArray.toList_eq]
   .cases H
  .rename_i ha a D b' G I;cases I;split at H
   .rename_i r T;refine step rfl rfl (by rw[V];rfl) (λu v N U=>?_) T (Option.some.inj H).symm;obtain rfl:=N.bool;obtain rfl:=U.bool;exact run_equalIn_bool' w n f.type a b' (by rw[Y,vN V])
   .cases H
  .rename_i ha _ k1 a D k2 b' G I;cases I;split at H
   .rename_i r Z T;have hb:=of_decide_eq_true Z;subst hb;refine step rfl rfl (by rw[V];rfl) (λu v N U=>?_) T (Option.some.inj H).symm;obtain rfl:=N.int;obtain rfl:=U.int;exact run_equalIn_int w n f.type k1 _ a b' (by rw[Y,ql V])
   .cases H
def Qj(cx:Cx)(op:BinOp)(t:TypeId)(x y:AV):Option AV :=
 match x,y with
 | .d (.bool a),.d (.bool b)=>(match isBool cx t with|true=>(match OR op a b with|some r=>some<|.d r|none=>none)|false=>none)
 | .d (.slice _ rows),.nil _=>abv cx op t rows
 | .agg cs,.agg ds=>(match cx.eqT t with|some j=>(match dO j cs ds with|some b=>aa1 op b|none=>none)|none=>none)
 |x,y=>VV op x y
def TW{cx:Cx}(I:bC cx){t:TypeId}(h:isBool cx t=true):cx.P.underlying t=some .bool:=by
 unfold isBool at h;split at h
 .rename_i J;obtain⟨D,j,z,h1,G,H,K⟩:=I _ _ J;rw[G,vN H]
 .cases h
def ZT{cx:Cx}(I:bC cx){t:TypeId}(h:Xg cx t=true):∃e,cx.P.underlying t=some (.slice e):=by
 unfold Xg at h;split at h
 .rename_i J;obtain⟨D,j,z,h1,G,H,K⟩:=I _ _ J;exact⟨_,by rw[G,cd H]⟩
 .cases h
def VX{w:World}{O L:Nat->Prop}{σ:Nat->Value}{cx:Cx}(hT:bC cx){op:BinOp}{t:TypeId}{x y:AV}{r:AV}(h:Qj cx op t x y=some r){u v:Value}(D:aC w O L σ x u)(H:aC w O L σ y v)(U V:Operand) :
 ∃z,(do eqGuard op t U V u v;binOp op t u v:Sem Value).run cx.P w= .ok z w/\aC w O L σ r z:=by
 unfold Qj at h;split at h
 .rename_i a b;obtain rfl:=D.bool;obtain rfl:=H.bool;cases I:isBool cx t with
  |false=>rw[I]at h;cases h
  |true =>
   rw[I]at h;have G:=TW hT I;cases op<;>simp only[OR]at h
   all_goals first
    |(cases h;done)
    |(cases h;refine⟨.bool _,?_,.gy _⟩;simp only[eqGuard,vA,eV,if_false];first|exact run_eql_bool w t a b G|exact run_neq_bool w t a b G|(simp;first|exact run_eql_bool w t a b G|exact run_neq_bool w t a b G))
 .rename_i sz rows z;unfold abv at h;split at h
  .rename_i Z;cases h;obtain⟨e,G⟩:=ZT hT Z;cases H;cases D with|d _ _ D=>cases D with
   |empty _ a cap=>exact⟨.bool a.isNone,by simp[eqGuard,Go.Lib.run_eql_slice_nil w t e a 0 cap 0 0 G],.maybe _ _ λ_=>rfl⟩
   |slice _ _ B off n cap us hn hO hB hc hl g1 g2=>exact⟨.bool false,by simp[eqGuard,Go.Lib.run_eql_slice_nil w t e (some ⟨B,off,none⟩) n cap 0 0 G],.maybe _ _ λe=>by cases e⟩
  .cases h
 .rename_i cs ds;split at h
  .rename_i ks W;split at h
   .rename_i b I;obtain⟨fs,f1,f2,f3,f4,f5⟩:=cx.WC t ks W;cases D with|agg _ xs X D =>
    cases H with|agg _ ys Y H =>
    have cell:∀{cs:List AV} {xs:Array Value},xs.size=cs.length->(∀j c,cs[j]? =some c->aC w O L σ c (xs.getD j Go.undef))-> ∀(j:Nat) c,cs[j]? =some c-> ∃u,xs[0+j]? =some u/\aC w O L σ c u:=λ{cs xs} hl h j c hj=>by
     have N:j<xs.size:=by rw[hl];exact(aA.1 hj).1
     refine⟨xs[j],by rw[Nat.zero_add];exact Array.getElem?_eq_getElem N,?_⟩;have:=h j c hj;simpa [bU,N] using this
    have T:=zf (n:=9998) fs.toList ks 0 cs ds b f4 (λj f k h1 h2=>by rw[Nat.zero_add];exact f5 j f k h1 h2) I (cell X D)<|cell Y H;have K:cx.P.fieldsOf t=fs:=by unfold Program.fieldsOf;rw[f1]
    have J:(Op.equalIn 10000 t (.agg xs)<|.agg ys).run cx.P w= .ok b w:=by
     rw[run_equalIn_struct w 9999 t xs ys (by rw[K];exact f1) f2,K];exact T
    unfold aa1 at h;split at h
    .cases h;refine⟨.bool b,?_,.gy _⟩;rw[Sem.run_bind,run_eqGuard_agg w _ t U V xs ys f3];simp only[Result.andThen_ok];rw[run_eql_struct,J];rfl
    .cases h;refine⟨.bool (!b),?_,.gy _⟩;rw[Sem.run_bind,run_eqGuard_agg w _ t U V xs ys f3];simp only[Result.andThen_ok];rw[run_neq_struct,J];rfl
    .cases h
   .cases h
  .cases h
 .exact VW h D H t U V
