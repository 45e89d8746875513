/-
  One text.
-/
import Derived.Test.YtodofogcincleaaGreatDoorQdM
import Derived.Laws.Cells
import Derived.Laws.Entries
import Derived.Laws.Small
import Derived.Laws.StructEq
import Derived.Lib.SliceRun
set_option linter.all false
namespace NQ
open Go Go.RowKit
theorem de(b o n:Nat):Addr.add ⟨b,o,none⟩ n=⟨b,o+n,none⟩:=by
 unfold Addr.add;split
 .rename_i h;subst h;rfl
 .rfl
section
variable {P:Program} {w:World} {O L:Nat->Prop} {σ:Nat->Value}
theorem El{x r:AV}{n:Nat}(h:Ek x n=some r){u:Value}(hx:aG w O L σ x u):∃b o,u= .pointer (some ⟨b,o,none⟩)/\aG w O L σ r (.pointer (some ⟨b,o+n,none⟩)):=by
 unfold Ek at h;split at h
 .cases h;cases hx with|ptr s off b hL hs=>exact⟨b,_,rfl,.ptr _ _ b hL hs⟩
 .cases h;cases hx with|dm s size i off b m cap o0 hL hs=>exact⟨b,_,rfl,by rw[Nat.add_assoc,Nat.add_assoc];exact .dm _ _ _ _ b m cap o0 hL hs⟩
 .cases h;cases hx with|d _ _ hx=>cases hx with|ptr cells B off us hO hB hD h1 h2 =>
   refine⟨B,off,rfl,.d _ _ (.ptr _ B (off+n) (λj=>us (n+j)) hO hB (λd hd=>hD d (List.mem_of_mem_drop hd)) (λj d hj=>?_) (λj d hj=>?_))⟩
   .rw[List.getElem?_drop]at hj;rw[Nat.add_assoc];exact h1 _ d hj
   .rw[List.getElem?_drop]at hj;exact h2 _ d hj
 .cases h
theorem pF{d:TypeDesc}{fs:List (Nat×TypeId)}(h:kindOf d= .struct fs):∃g,d= .struct g/\fs=g.toList.map λf=>(f.offset,f.type):=by
 cases d <;> simp[kindOf]at h;rename_i g;exact⟨g,rfl,h.symm⟩
theorem bZ{d:TypeDesc}{e:TypeId}(h:kindOf d= .slice e):d= .slice e:=by
 cases d <;> simp[kindOf]at h;rw[h]
theorem wh{d:TypeDesc}{n:Nat}{e:TypeId}(h:kindOf d= .array n e):d= .array n e:=by
 cases d <;> simp[kindOf]at h;rw[h.1,h.2]
theorem ff{d:TypeDesc}(h:kindOf d= .str):d= .string:=by
 cases d <;> simp[kindOf]at h;rfl
theorem nP{d:TypeDesc}{k:IntKind}(h:kindOf d= .int k):d= .int k:=by
 cases d <;> simp[kindOf]at h;rw[h]
theorem ss{d:TypeDesc}(h:kindOf d= .bool):d= .bool:=by
 cases d <;> simp[kindOf]at h;rfl
theorem jt{d:TypeDesc}{k e:TypeId}(h:kindOf d= .map k e):d= .map k e:=by
 cases d <;> simp[kindOf]at h;rw[h.1,h.2]
def BO(cx:Cx)(s:TypeId)(f:Nat):Option (Nat×TI) :=
 match cx.ty s with
 |some ⟨_,_,.struct fs,_⟩=>(match fs[f]? with|some (off,ft)=>(match cx.ty ft with|some i=>some (off,i)|none=>none)|none=>none)
 |_=>none
theorem KA{cx:Cx}(hT:bD cx){s:TypeId}{f off:Nat}{i:TI}(h:BO cx s f=some (off,i)) :
 ∃g ht,cx.P.underlying s=some (.struct g)/\g[f]? =some ht/\ht.offset=off/\cx.ty ht.type=some i:=by
 unfold BO at h;split at h
 .rename_i fs _ hs;split at h
  .rename_i o ft hf;split at h
   .rename_i j hj;cases h;obtain⟨info,desc,z,h1,h2,h3,_⟩:=hT s _ hs;obtain⟨g,rfl,rfl⟩:=pF h3;rw[bc]at hf;cases hg:g.toList[f]? with
    |none=>rw[hg]at hf;cases hf
    |some ht=>rw[hg]at hf;cases hf;exact⟨g,ht,h2,by rw[<- bx];exact hg,rfl,hj⟩
   .cases h
  .cases h
 .cases h
def uc(cx:Cx)(s:TypeId)(x:AV)(f:Nat):Option AV :=
 match BO cx s f with
 |some (off,i)=>(match Nat.beq i.size 0 with|false=>Ek x off|true=>none)
 |none=>none
theorem BN{cx:Cx}(hT:bD cx){s:TypeId}{x r:AV}{f:Nat}(h:uc cx s x f=some r){u:Value}(hx:aG w O L σ x u) :
 ∃z,(Instr.fieldAt s u f).run cx.P w= .ok z w/\aG w O L σ r z:=by
 unfold uc at h;split at h
 .rename_i off i hf;split at h
  .rename_i hz;obtain⟨g,ht,h1,h2,h3,h4⟩:=KA hT hf;obtain⟨info,desc,zz,i1,_,_,i4,_⟩:=hT _ _ h4;obtain⟨b,o,rfl,hr⟩:=El h hx;refine⟨_,?_,hr⟩;have hN:info.size≠0:=by rw[i4];intro e;rw[e]at hz;cases hz
   simp[Instr.fieldAt,run_underlying h1,h2,Instr.sureAddr,fieldPlace,Go.sizeOf,typeInfo,i1,hN,h3,de]
  .cases h
 .cases h
def uQ(cx:Cx)(t:TypeId)(cs:List AV):Option AV :=
 match cx.ty t with
 |some i=>(match i.kind.isAgg with
  |true=>(match Nat.ble i.size cs.length with|true=>some (.agg (cs.take i.size))|false=>none)
  |false=>(match cs with| .undef::_=>none|c::_=>some c|[]=>none))
 |none=>none
theorem dH{cx:Cx}(hT:bD cx){t:TypeId}{i:TI}(h:cx.ty t=some i):(isAgg t).run cx.P w= .ok i.kind.isAgg w/\(Go.sizeOf t).run cx.P w= .ok i.size w:=by
 obtain⟨info,desc,z,h1,h2,h3,h4,_⟩:=hT t i h;refine⟨?_,by simp[Go.sizeOf,typeInfo,h1,h4]⟩;rw[<- h3];cases desc <;> simp[isAgg,run_underlying h2,kindOf,K.isAgg]
theorem mA{cx:Cx}(hT:bD cx){t:TypeId}{cs:List AV}{r:AV}(h:uQ cx t cs=some r){b o:Nat}(us:Nat->Value)
 (h1:∀j c,cs[j]? =some c->w.cell? ⟨b,o+j,none⟩=some (us j)) (h2:∀j c,cs[j]? =some c->aG w O L σ c (us j)) :
 ∃z,(Instr.loadAt t (.pointer (some ⟨b,o,none⟩))).run cx.P w= .ok z w/\aG w O L σ r z:=by
 unfold uQ at h;split at h
 .rename_i i hi;obtain⟨r1,r2⟩:=dH (w:=w) hT hi;split at h
  .rename_i hq;split at h
   .rename_i hle;cases h;have hle:i.size<=cs.length:=bB hle;have hl:=run_loadCells (P:=cx.P) (w:=w) ⟨b,o,none⟩ i.size us (λj hj=>by
     rw[de];exact h1 j _ (au (by omega)))
    refine⟨.agg ((List.range i.size).map us).toArray,by simp[Instr.loadAt,Instr.sureAddr,loadVar,r1,hq,r2,hl],.agg _ _ (by simp;omega) λj c hj=>?_⟩;rw[List.getElem?_take]at hj;split at hj
    .rename_i hA;have:((List.range i.size).map us).toArray.getD j Go.undef=us j:=by simp[hA]
     rw[this];exact h2 j c hj
    .cases hj
   .cases h
  .rename_i hq;split at h
   .cases h
   .rename_i c tl _;cases h;refine⟨us 0,?_,h2 0 r rfl⟩;have:=h1 0 r rfl;simp[Instr.loadAt,Instr.sureAddr,loadVar,r1,hq];rw[show o+0=o from rfl]at this;simp[load,Sem.run,this]
   .cases h
 .cases h
end
def isBool(cx:Cx)(t:TypeId):Bool:=match cx.ty t with|some ⟨_,_,.bool,_⟩=>true|_=>false
def IY(op:BinOp)(a b:Bool):Option D :=
 match op with
 | .eql=>some (.bool (a==b))
 | .neq=>some (.bool (!(a==b)))
 |_=>none
def Qh(cx:Cx)(t:TypeId):Bool:=match cx.ty t with|some ⟨_,_,.slice _,_⟩=>true|_=>false
def Ul(cx:Cx)(op:BinOp)(t:TypeId)(rows:List (List D)):Option AV :=
 match op,Qh cx t with
 | .eql,true=>some (.maybe rows.isEmpty)
 |_,_=>none
def dN:List K->List AV->List AV->Option Bool
 |[],[],[]=>some true
 | .str::ks,.d (.str a)::cs,.d (.str b)::ds=>(match dN ks cs ds with|some r=>some ((a==b)&&r)|none=>none)
 | .bool::ks,.d (.bool a)::cs,.d (.bool b)::ds=>(match dN ks cs ds with|some r=>some ((a==b)&&r)|none=>none)
 | .int _::ks,.d (.int k a)::cs,.d (.int k' b)::ds=>(match decide (k=k'),dN ks cs ds with|true,some r=>some ((a==b)&&r)|_,_=>none)
 |_,_,_=>none
def TJ(op:BinOp)(b:Bool):Option AV :=
 match op with
 | .eql=>some (.d (.bool b))
 | .neq=>some (.d (.bool (!b)))
 |_=>none
theorem zi{P:Program}{w:World}{t:TypeId}{d:TypeDesc}(h:P.underlying t=some d)(hk:(kindOf d).isAgg=false){xs:Array Value}{o:Nat}{v:Value}(hx:xs[o]? =some v):(part t xs o).run P w= .ok v w:=by
 cases d <;> simp[kindOf,K.isAgg]at hk <;> simp[part,isAgg,run_underlying h,hx]
theorem vH{P:Program}{w:World}{O L:Nat->Prop}{σ:Nat->Value}{n:Nat}{xs ys:Array Value}:∀(l:List Field) (ks:List K) (i:Nat) (cs ds:List AV) (b:Bool),l.length=ks.length ->
 (∀(j:Nat) f k,l[j]? =some f->ks[j]? =some k->f.offset=i+j/\f.name≠ "_" /\ ∃desc,P.underlying f.type=some desc/\kindOf desc=k)->dN ks cs ds=some b ->
 (∀(j:Nat) c,cs[j]? =some c-> ∃u,xs[i+j]? =some u/\aG w O L σ c u)->(∀(j:Nat) c,ds[j]? =some c-> ∃u,ys[i+j]? =some u/\aG w O L σ c u) ->
 (Op.eqFields (n+1) xs ys l).run P w= .ok b w
 |[],[],i,cs,ds,b,_,_,he,_,_=>by
  cases cs <;> cases ds <;> simp[dN]at he;subst he;simp[Op.eqFields]
 |[],_::_,_,_,_,_,hl,_,_,_,_=>by simp at hl
 |_::_,[],_,_,_,_,hl,_,_,_,_=>by simp at hl
 |f::l,k::ks,i,cs,ds,b,hl,hf,he,hx,hy=>by
  obtain⟨ho,hn,desc,hd,hk⟩:=hf 0 f k rfl rfl
  have step : ∀ {c e : AV} {hh hp : List AV} {r q : Bool} , cs = c :: hh -> ds = e :: hp -> (kindOf desc).isAgg = false -> (∀ u v, aG w O L σ c u -> aG w O L σ e v -> (Op.equalIn (n + 1) f.type u v).run P w = .ok q w) ->
      dN ks hh hp =some r->b=(q&&r)->(Op.eqFields (n+1) xs ys (f::l)).run P w= .ok b w:=by
   rintro c e hh hp r q rfl rfl hF heq hr rfl;obtain⟨u,hu,ru⟩:=hx 0 c rfl;obtain⟨v,hv,rv⟩:=hy 0 e rfl;have ih:=vH (n:=n) (xs:=xs) (ys:=ys) l ks (i+1) hh hp r (by simpa using hl) (λj f' k' h1 h2=>by
    obtain⟨a1,a2⟩:=hf (j+1) f' k' h1 h2;exact⟨by omega,a2⟩) hr (λj c h=>by
    obtain⟨u,hu,ru⟩:=hx (j+1) c h;exact⟨u,by rw[<- hu];congr 1;omega,ru⟩) (λj c h=>by
    obtain⟨u,hu,ru⟩:=hy (j+1) c h;exact⟨u,by rw[<- hu];congr 1;omega,ru⟩)
   simp only[Op.eqFields,if_pos hn,Sem.run_bind];rw[zi (w:=w) hd hF (xs:=xs) (o:=f.offset) (v:=u) (by rw[ho];exact hu)];simp only[Result.andThen_ok];rw[zi (w:=w) hd hF (xs:=ys) (o:=f.offset) (v:=v) (by rw[ho];exact hv)];simp only[Result.andThen_ok];rw[heq u v ru rv];cases q
   .simp[Result.andThen_ok]
   .simpa [Result.andThen_ok] using ih
  unfold dN at he;split at he <;> first|(cases he;done)|skip
  .rename_i ha;cases ha
  .rename_i hI a hh b' hp ha;cases ha;split at he
   .rename_i r hr;refine step rfl rfl (by rw[hk];rfl) (λu v hu hv=>?_) hr (Option.some.inj he).symm;obtain⟨p,rfl,rfl⟩:=hu.str;obtain⟨q,rfl,rfl⟩:=hv.str;rw[run_equalIn_string w n f.type p q (by rw[hd,ff hk])];rw[ByteArray.toList_eq,ByteArray.toList_eq]
   .cases he
  .rename_i hI a hh b' hp ha;cases ha;split at he
   .rename_i r hr;refine step rfl rfl (by rw[hk];rfl) (λu v hu hv=>?_) hr (Option.some.inj he).symm;obtain rfl:=hu.bool;obtain rfl:=hv.bool;exact run_equalIn_bool' w n f.type a b' (by rw[hd,ss hk])
   .cases he
  .rename_i hI _ k1 a hh k2 b' hp ha;cases ha;split at he
   .rename_i r hC hr;have hJ:=of_decide_eq_true hC;subst hJ;refine step rfl rfl (by rw[hk];rfl) (λu v hu hv=>?_) hr (Option.some.inj he).symm;obtain rfl:=hu.int;obtain rfl:=hv.int;exact run_equalIn_int w n f.type k1 _ a b' (by rw[hd,nP hk])
   .cases he
def Kc(cx:Cx)(op:BinOp)(t:TypeId)(x y:AV):Option AV :=
 match x,y with
 | .d (.bool a),.d (.bool b)=>(match isBool cx t with|true=>(match IY op a b with|some r=>some (.d r)|none=>none)|false=>none)
 | .d (.slice _ rows),.nil _=>Ul cx op t rows
 | .agg cs,.agg ds=>(match cx.eqT t with|some ks=>(match dN ks cs ds with|some b=>TJ op b|none=>none)|none=>none)
 |x,y=>Pk op x y
theorem Nq{cx:Cx}(hT:bD cx){t:TypeId}(h:isBool cx t=true):cx.P.underlying t=some .bool:=by
 unfold isBool at h;split at h
 .rename_i hy;obtain⟨info,desc,z,h1,h2,h3,h4⟩:=hT _ _ hy;rw[h2,ss h3]
 .cases h
theorem SG{cx:Cx}(hT:bD cx){t:TypeId}(h:Qh cx t=true):∃e,cx.P.underlying t=some (.slice e):=by
 unfold Qh at h;split at h
 .rename_i hy;obtain⟨info,desc,z,h1,h2,h3,h4⟩:=hT _ _ hy;exact⟨_,by rw[h2,bZ h3]⟩
 .cases h
theorem Pm{w:World}{O L:Nat->Prop}{σ:Nat->Value}{cx:Cx}(hT:bD cx){op:BinOp}{t:TypeId}{x y:AV}{r:AV}(h:Kc cx op t x y=some r){u v:Value}(hx:aG w O L σ x u)(hy:aG w O L σ y v)(ox oy:Operand) :
 ∃z,(do eqGuard op t ox oy u v;binOp op t u v:Sem Value).run cx.P w= .ok z w/\aG w O L σ r z:=by
 unfold Kc at h;split at h
 .rename_i a b;obtain rfl:=hx.bool;obtain rfl:=hy.bool;cases hb:isBool cx t with
  |false=>rw[hb]at h;cases h
  |true =>
   rw[hb]at h;have hu:=Nq hT hb;cases op <;> simp only[IY]at h
   all_goals first
    |(cases h;done)
    |(cases h;refine⟨.bool _,?_,.fL _⟩;simp only[eqGuard,sd,fR,if_false];first|exact run_eql_bool w t a b hu|exact run_neq_bool w t a b hu|(simp;first|exact run_eql_bool w t a b hu|exact run_neq_bool w t a b hu))
 .rename_i sz rows z;unfold Ul at h;split at h
  .rename_i hP;cases h;obtain⟨e,hu⟩:=SG hT hP;cases hy;cases hx with|d _ _ hx=>cases hx with
   |empty _ a cap=>exact⟨.bool a.isNone,by simp[eqGuard,Go.Lib.run_eql_slice_nil w t e a 0 cap 0 0 hu],.maybe _ _ λ_=>rfl⟩
   |slice _ _ B off n cap us hn hO hB hc hl g1 g2=>exact⟨.bool false,by simp[eqGuard,Go.Lib.run_eql_slice_nil w t e (some ⟨B,off,none⟩) n cap 0 0 hu],.maybe _ _ λe=>by cases e⟩
  .cases h
 .rename_i cs ds;split at h
  .rename_i ks ha;split at h
   .rename_i b hb;obtain⟨fs,f1,f2,f3,f4,f5⟩:=cx.PJ t ks ha;cases hx with|agg _ xs hK hx =>
    cases hy with|agg _ ys hM hy =>
    have cell:∀{cs:List AV} {xs:Array Value},xs.size=cs.length->(∀j c,cs[j]? =some c->aG w O L σ c (xs.getD j Go.undef))-> ∀(j:Nat) c,cs[j]? =some c-> ∃u,xs[0+j]? =some u/\aG w O L σ c u:=λ{cs xs} hl h j c hj=>by
     have hA:j<xs.size:=by rw[hl];exact(aB.1 hj).1
     refine⟨xs[j],by rw[Nat.zero_add];exact Array.getElem?_eq_getElem hA,?_⟩;have:=h j c hj;simpa [bM,hA] using this
    have hE:=vH (n:=9998) fs.toList ks 0 cs ds b f4 (λj f k h1 h2=>by rw[Nat.zero_add];exact f5 j f k h1 h2) hb (cell hK hx) (cell hM hy);have hG:cx.P.fieldsOf t=fs:=by unfold Program.fieldsOf;rw[f1]
    have heq:(Op.equalIn 10000 t (.agg xs) (.agg ys)).run cx.P w= .ok b w:=by
     rw[run_equalIn_struct w 9999 t xs ys (by rw[hG];exact f1) f2,hG];exact hE
    unfold TJ at h;split at h
    .cases h;refine⟨.bool b,?_,.fL _⟩;rw[Sem.run_bind,run_eqGuard_agg w _ t ox oy xs ys f3];simp only[Result.andThen_ok];rw[run_eql_struct,heq];rfl
    .cases h;refine⟨.bool (!b),?_,.fL _⟩;rw[Sem.run_bind,run_eqGuard_agg w _ t ox oy xs ys f3];simp only[Result.andThen_ok];rw[run_neq_struct,heq];rfl
    .cases h
   .cases h
  .cases h
 .exact Pl h hx hy t ox oy
end NQ
