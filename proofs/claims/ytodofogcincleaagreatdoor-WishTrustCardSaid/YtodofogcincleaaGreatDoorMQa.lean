/-
  Merged texts.
-/
import Derived.Test.YtodofogcincleaaGreatDoorAbM
import Derived.Below
import Derived.Laws.AppendOwn
import Derived.Laws.OwnMore
import Derived.Laws.MakeOwn
import Derived.Orders
import Derived.KernelRfl
import Derived.Maps.RangeRun
set_option linter.all false
namespace NQ
open Go Go.RowKit
inductive D where
 |int (k:IntKind) (n:Int)
 |bool (b:Bool)
 |str (s:List UInt8)
 |slice (size:Nat) (rows:List (List D))
 |agg (cells:List D)
 |tuple (vs:List D)
 |ptr (cells:List D)
 |fn (f:FuncId) (first hh:List D)
 |cY (m:List (List D×D))
 |iy
 deriving Inhabited
def D.one:D->Bool
 | .agg _| .tuple _=>false
 |_=>true
def D.fG:D->Bool
 | .int _ _| .bool _| .str _=>true
 |_=>false
def D.flat:D->Bool
 | .int _ _| .bool _| .str _=>true
 | .agg cs=>cs.all D.fG
 | .tuple vs=>vs.all fun| .agg cs=>cs.all D.fG|x=>x.fG
 |_=>false
def eD:D->Value->Prop
 | .int k n,v=>v= .int k n
 | .bool b,v=>v= .bool b
 | .str s,v=> ∃b:ByteArray,v= .string b/\b.data.toList=s
 |_,_=>False
def lG(cells:List D)(v:Value):Prop:=(∃d,cells=[.tuple [d]]/\eD d v)\/ ∃vs:Array Value,v= .agg vs/\vs.size=cells.length/\ ∀(j:Nat) d,cells[j]? =some d->eD d (vs.getD j undef)
def jN(es:Array MapEntry)(clock:Nat):Prop:=(∀x∈es.toList,x.born<clock)/\(es.toList.map (·.born)).Nodup
theorem Bj(clock:Nat):jN #[] clock:=⟨λx hx=>by simp at hx,by simp⟩
theorem sG{es:Array MapEntry}{clock:Nat}(h:jN es clock)(k v:Value):jN (es.push ⟨k,v,clock⟩) (clock+1):=by
 refine⟨λx hx=>?_,?_⟩
 .rw[Array.toList_push,List.mem_append]at hx;rcases hx with hx|hx
  .exact Nat.lt_succ_of_lt (h.1 x hx)
  .rw[List.mem_singleton]at hx;subst hx;exact Nat.lt_succ_self _
 .rw[Array.toList_push,List.map_append];refine List.nodup_append.2 ⟨h.2,by simp,λa ha b hb=>?_⟩;obtain⟨x,hx,rfl⟩:=List.mem_map.1 ha;simp only[List.map_cons,List.map_nil,List.mem_singleton]at hb;subst hb;exact Nat.ne_of_lt (h.1 x hx)
theorem pI{es:Array MapEntry}{clock:Nat}(h:jN es clock)(i:Nat)(f:MapEntry->MapEntry)(hf:∀e,(f e).born=e.born):jN (es.modify i f) clock:=by
 have e:(es.modify i f).toList.map (·.born)=es.toList.map (·.born):=by
  apply List.ext_getElem?;intro j;rw[bc,bc,bx,bx,Array.getElem?_modify];split
  .cases es[j]? <;> simp[hf]
  .rfl
 refine⟨λx hx=>?_,by rw[e];exact h.2⟩;have:x.born∈es.toList.map (·.born):=e ▸ List.mem_map_of_mem hx;obtain⟨y,hy,hU⟩:=List.mem_map.1 this;rw[<- hU];exact h.1 y hy
def tD(R:D->Value->Prop)(m:List (List D×D))(es:Array MapEntry)(clock:Nat):Prop:=(es.size=m.length/\jN es clock)/\ ∀(j:Nat) k v,m[j]? =some (k,v)-> ∃e:MapEntry,es[j]? =some e/\lG k e.key/\R v e.val
theorem tD.mono{R R' :D->Value->Prop}(h:∀d v,R d v->R' d v){m:List (List D×D)}{es:Array MapEntry}{clock:Nat}(hm:tD R m es clock):tD R' m es clock :=
 ⟨hm.1,λj k v hj=>by obtain⟨e,h1,h2,h3⟩:=hm.2 j k v hj;exact⟨e,h1,h2,h _ _ h3⟩⟩
inductive Rep (w:World) (O:Nat->Prop):D->Value->Prop
 |int (k:IntKind) (n:Int):Rep w O (.int k n) (.int k n)
 |bool (b:Bool):Rep w O (.bool b) (.bool b)
 |str (s:List UInt8) (b:ByteArray) (h:b.data.toList=s):Rep w O (.str s) (.string b)
 |empty (sz:Nat) (a:Option Addr) (cap:Nat):Rep w O (.slice sz []) (.slice a 0 cap)
 | slice (sz : Nat) (rows : List (List D)) (B off n cap : Nat) (us : Nat -> Nat -> Value) (hn : rows.length = n) (hO : ¬ O B) (hB : B < w.heap.size) (hc : n <= cap)
     (hl:∀r∈rows,r.length=sz/\ ∀d∈r,d.one=true)
     (h1:∀i r j d,rows[i]? =some r->r[j]? =some d->w.cell? ⟨B,off+i*sz+j,none⟩=some (us i j))
     (h2:∀i r j d,rows[i]? =some r->r[j]? =some d->Rep w O d (us i j)) :
     Rep w O (.slice sz rows) (.slice (some ⟨B,off,none⟩) n cap)
 |agg (cells:List D) (vs:Array Value) (hl:vs.size=cells.length) (h1:∀d∈cells,d.one=true) (h:∀j d,cells[j]? =some d->Rep w O d (vs.getD j undef)):Rep w O (.agg cells) (.agg vs)
 |tuple (cells:List D) (vs:Array Value) (hl:vs.size=cells.length) (h:∀j d,cells[j]? =some d->Rep w O d (vs.getD j undef)):Rep w O (.tuple cells) (.tuple vs)
 | ptr (cells : List D) (B off : Nat) (us : Nat -> Value) (hO : ¬ O B) (hB : B < w.heap.size) (hC : ∀ d ∈ cells, d.one = true)
     (h1:∀j d,cells[j]? =some d->w.cell? ⟨B,off+j,none⟩=some (us j)) (h2:∀j d,cells[j]? =some d->Rep w O d (us j)) :
     Rep w O (.ptr cells) (.pointer (some ⟨B,off,none⟩))
 | fn (f : FuncId) (first hh : List D) (xs vs : Array Value) (hx : xs.size = first.length) (hl : vs.size = hh.length) (h1 : ∀ j d, first[j]? = some d -> Rep w O d (xs.getD j undef)) (h2 : ∀ j d, hh[j]? = some d -> Rep w O d (vs.getD j undef))
     (h3:∀(j:Nat) m,hh[j]? =some (.ptr [.cY m])-> ∃B,vs.getD j undef= .pointer (some ⟨B,0,none⟩)) :
     Rep w O (.fn f first hh) (.func (.func f) xs vs)
 | cY (m : List (List D × D)) (b clock : Nat) (es : Array MapEntry) (hO : ¬ O b) (hB : b < w.heap.size) (h : w.heap[b]? = some (.map es clock)) (hs : es.size = m.length /\ jN es clock)
     (hk:∀(j:Nat) k v,m[j]? =some (k,v)->lG k (es.getD j default).key) (hv:∀(j:Nat) k v,m[j]? =some (k,v)->Rep w O v (es.getD j default).val):Rep w O (.cY m) (.map (some b))
 |iy:Rep w O .iy (.map none)
theorem Rep.ofMap{w:World}{O:Nat->Prop}{m:List (List D×D)}{b clock:Nat}{es:Array MapEntry}(hO:¬O b)(hB:b<w.heap.size)(h:w.heap[b]? =some (.map es clock))(hm:tD (Rep w O) m es clock):Rep w O (.cY m) (.map (some b)):=by
 refine .cY m b clock es hO hB h hm.1 (λj k v hj=>?_) (λj k v hj=>?_)
 .obtain⟨e,h1,h2,h3⟩:=hm.2 j k v hj;rw[bM,h1];exact h2
 .obtain⟨e,h1,h2,h3⟩:=hm.2 j k v hj;rw[bM,h1];exact h3
theorem Rep.LP{w:World}{O:Nat->Prop}{m:List (List D×D)}{u:Value}(h:Rep w O (.cY m) u):∃b clock es,u= .map (some b)/\ ¬O b/\b<w.heap.size/\w.heap[b]? =some (.map es clock)/\tD (Rep w O) m es clock:=by
 cases h with|cY _ b clock es hO hB h hs hk hv =>
  refine⟨b,clock,es,rfl,hO,hB,h,hs,λj k v hj=>?_⟩;have ht:j<es.size:=by rw[hs.1];exact(aB.1 hj).1
  have e:es.getD j default=es[j]:=by simp[ht]
  exact⟨es[j],Array.getElem?_eq_getElem ht,e ▸ hk j k v hj,e ▸ hv j k v hj⟩
structure bw(w w' :World)(O O' :Nat->Prop):Prop where
 size:w.heap.size<=w'.heap.size
 block:∀b,¬O b->b<w.heap.size->w'.heap[b]? =w.heap[b]?
 own:∀b,¬O b->b<w.heap.size-> ¬O' b
theorem bw.cell{w w' :World}{O O' :Nat->Prop}(k:bw w w' O O'){B off:Nat}(hO:¬O B)(hB:B<w.heap.size):w'.cell? ⟨B,off,none⟩=w.cell? ⟨B,off,none⟩ :=
 World.cell?_of_block (a:=⟨B,off,none⟩) (k.block B hO hB)
theorem Rep.mono{w w' :World}{O O' :Nat->Prop}(k:bw w w' O O'){d:D}{v:Value}(h:Rep w O d v):Rep w' O' d v:=by
 induction h with
 |int=>exact .int _ _
 |bool=>exact .bool _
 |str s b h=>exact .str s b h
 |empty=>exact .empty _ _ _
 |slice sz rows B off n cap us hn hO hB hc hl h1 _ ih =>
  exact .slice sz rows B off n cap us hn (k.own B hO hB) (Nat.lt_of_lt_of_le hB k.size) hc hl (λi r j d hi hj=>(k.cell hO hB).trans (h1 i r j d hi hj)) ih
 |agg cells vs hl h1 _ ih=>exact .agg cells vs hl h1 ih
 |tuple cells vs hl _ ih=>exact .tuple cells vs hl ih
 |ptr cells B off us hO hB hC h1 _ ih=>exact .ptr cells B off us (k.own B hO hB) (Nat.lt_of_lt_of_le hB k.size) hC (λj d hj=>(k.cell hO hB).trans (h1 j d hj)) ih
 |fn f first hh xs vs hx hl _ _ h3 hK hM=>exact .fn f first hh xs vs hx hl hK hM h3
 |iy=>exact .iy
 |cY m b clock es hO hB h hs hk _ ih=>exact .cY m b clock es (k.own b hO hB) (Nat.lt_of_lt_of_le hB k.size) ((k.block b hO hB).trans h) hs hk ih
theorem bw.refl(w:World)(O:Nat->Prop):bw w w O O:=⟨Nat.le_refl _,λ_ _ _=>rfl,λ_ h _=>h⟩
theorem bw.less{w:World}{O O' :Nat->Prop}(h:∀b,O' b->O b):bw w w O O' :=⟨Nat.le_refl _,λ_ _ _=>rfl,λb hb _ h' =>hb (h b h')⟩
theorem Rep.fG{w w' :World}{O O' :Nat->Prop}{d:D}{v:Value}(h:Rep w O d v)(hf:d.fG=true):Rep w' O' d v:=by
 cases h <;> first|exact .int _ _|exact .bool _|(exact .str _ _ (by assumption))|cases hf
theorem Rep.flat{w w' :World}{O O' :Nat->Prop}{d:D}{v:Value}(h:Rep w O d v)(hf:d.flat=true):Rep w' O' d v:=by
 cases h with
 |int=>exact .int _ _
 |bool=>exact .bool _
 |str s b h=>exact .str s b h
 |agg cells vs hl h1 h =>
  simp only[D.flat,aI]at hf;exact .agg cells vs hl h1 λj d hj=>(h j d hj).fG (hf d (aD hj))
 |tuple cells vs hl h =>
  simp only[D.flat,aI]at hf;refine .tuple cells vs hl λj d hj=>?_
  have hd:=hf d (aD hj);have hr:=h j d hj;generalize vs.getD j undef=u at hr;cases hr with
  |agg cells vs hl h1 h =>
   simp only[aI]at hd;exact .agg cells vs hl h1 λj d hj=>(h j d hj).fG (hd d (aD hj))
  |int=>exact .int _ _
  |bool=>exact .bool _
  |str s b h=>exact .str s b h
  |empty=>cases hd
  |slice=>cases hd
  |tuple=>cases hd
  |ptr=>cases hd
  |fn=>cases hd
  |cY=>cases hd
  |iy=>cases hd
 |empty=>cases hf
 |slice=>cases hf
 |ptr=>cases hf
 |fn=>cases hf
 |cY=>cases hf
 |iy=>cases hf
theorem Rep.jd{w:World}{O:Nat->Prop}{d:D}{v:Value}(h:Rep w O d v)(h1:d.one=true):v.oneCell' =true:=by
 cases h <;> first|rfl|cases h1
inductive AV where
 |undef
 |d (x:D)
 |nil (sz:Nat)
 |ptr (s off:Nat)
 |own (s:Nat)
 |dm (s size i off:Nat)
 |tl (s size i:Nat)
 |omap (s:Nat)
 |maybe (p:Bool)
 |agg (cs:List AV)
 |tuple (vs:List AV)
 |fn (f:FuncId) (first hh:List AV)
 deriving Inhabited
def AV.one:AV->Bool
 | .d x=>x.one
 | .undef| .agg _| .tuple _=>false
 |_=>true
inductive Blk where
 |box (cells:List AV)
 |row (e:TypeId) (size:Nat) (rows:List (List D)) (fl:Bool:=false)
 |smap (m:List (List UInt8×D))
 |cY (m:List (List D×D))
 |eF (e:TypeId) (size:Nat) (rows:List (List AV))
 |tail (e:TypeId) (size:Nat) (rows:List (List D))
 |iter (left:List (List D×D)) (cur:Option (List D×D))
 |dJ (m:List (List UInt8×AV))
 deriving Inhabited
def find{α:Type}:List (Nat×α)->Nat->Option α
 |[],_=>none
 |(k,x)::t,i=>match Nat.beq k i with|true=>some x|false=>find t i
structure St where
 aV:List (Nat×AV)
 heap:List (Nat×Blk)
def St.get(st:St)(t:Nat):AV:=match find st.aV t with|some v=>v|none=> .undef
def home:Value->Option Nat
 | .pointer (some a)=>some a.block
 | .slice (some a) _ _=>some a.block
 | .map r=>r
 |_=>none
def live(h:List (Nat×Blk))(s:Nat):Prop:=(find h s).isSome=true
def Own(O L:Nat->Prop)(σ:Nat->Value)(b:Nat):Prop:=O b\/ ∃s,L s/\home (σ s)=some b
inductive aG (w:World) (O L:Nat->Prop) (σ:Nat->Value):AV->Value->Prop
 |undef (v:Value):aG w O L σ .undef v
 |d (x:D) (v:Value) (h:Rep w (Own O L σ) x v):aG w O L σ (.d x) v
 |nil (sz:Nat):aG w O L σ (.nil sz) (.slice none 0 0)
 |ptr (s off b:Nat) (hL:L s) (h:σ s= .pointer (some ⟨b,0,none⟩)):aG w O L σ (.ptr s off) (.pointer (some ⟨b,off,none⟩))
 |own (s:Nat) (hL:L s):aG w O L σ (.own s) (σ s)
 |dm (s size i off b n cap o0:Nat) (hL:L s) (h:σ s= .slice (some ⟨b,o0,none⟩) n cap):aG w O L σ (.dm s size i off) (.pointer (some ⟨b,o0+(i*size+off),none⟩))
 |tl (s size i b n cap o0:Nat) (hL:L s) (h:σ s= .slice (some ⟨b,o0,none⟩) n cap):aG w O L σ (.tl s size i) (.slice (some ⟨b,o0+i*size,none⟩) (n-i) (cap-i))
 |omap (s:Nat) (hL:L s):aG w O L σ (.omap s) (σ s)
 |maybe (p b:Bool) (h:b=true->p=true):aG w O L σ (.maybe p) (.bool b)
 |agg (cs:List AV) (vs:Array Value) (hl:vs.size=cs.length) (h:∀j c,cs[j]? =some c->aG w O L σ c (vs.getD j Go.undef)):aG w O L σ (.agg cs) (.agg vs)
 |tuple (cs:List AV) (vs:Array Value) (hl:vs.size=cs.length) (h:∀j c,cs[j]? =some c->aG w O L σ c (vs.getD j Go.undef)):aG w O L σ (.tuple cs) (.tuple vs)
 | fn (f : FuncId) (first hh : List AV) (xs vs : Array Value) (hx : xs.size = first.length) (hl : vs.size = hh.length) (h1 : ∀ j c, first[j]? = some c -> aG w O L σ c (xs.getD j Go.undef))
     (h2:∀j c,hh[j]? =some c->aG w O L σ c (vs.getD j Go.undef)):aG w O L σ (.fn f first hh) (.func (.func f) xs vs)
theorem aG.mono{w w' :World}{O O' L L' :Nat->Prop}{σ σ' :Nat->Value}(k:bw w w' (Own O L σ) (Own O' L' σ'))(hs:∀s,L s->L' s/\σ' s=σ s){c:AV}{v:Value}(h:aG w O L σ c v):aG w' O' L' σ' c v:=by
 induction h with
 |undef=>exact .undef _
 |d x v h=>exact .d x v (h.mono k)
 |nil=>exact .nil _
 |ptr s off b hL h=>exact .ptr s off b (hs s hL).1 ((hs s hL).2.trans h)
 |own s hL=>rw[<- (hs s hL).2];exact .own s (hs s hL).1
 |dm s size i off b n cap o0 hL h=>exact .dm s size i off b n cap o0 (hs s hL).1 ((hs s hL).2.trans h)
 |tl s size i b n cap o0 hL h=>exact .tl s size i b n cap o0 (hs s hL).1 ((hs s hL).2.trans h)
 |omap s hL=>rw[<- (hs s hL).2];exact .omap s (hs s hL).1
 |maybe p b h=>exact .maybe p b h
 |agg cs vs hl _ ih=>exact .agg cs vs hl ih
 |tuple cs vs hl _ ih=>exact .tuple cs vs hl ih
 |fn f first hh xs vs hx hl _ _ hK hM=>exact .fn f first hh xs vs hx hl hK hM
theorem aG.jd{w:World}{O L:Nat->Prop}{σ:Nat->Value}(hσ:∀s,L s->(σ s).oneCell' =true){c:AV}{v:Value}(h:aG w O L σ c v)(h1:c.one=true):v.oneCell' =true:=by
 cases h <;> first|rfl|(exact hσ _ (by assumption))|(rename_i h;exact h.jd h1)|cases h1
theorem zk{α β:Type}{f:α->β}{rows:List (List α)}{i j:Nat}{r:List β}{c:β}(hi:(rows.map λr=>r.map f)[i]? =some r)(hj:r[j]? =some c):∃r0 c0,rows[i]? =some r0/\r0[j]? =some c0/\c=f c0:=by
 rw[bc]at hi;cases h:rows[i]? with
 |none=>rw[h]at hi;cases hi
 |some r0 =>
  rw[h]at hi;cases hi;rw[bc]at hj;cases h' :r0[j]? with
  |none=>rw[h']at hj;cases hj
  |some c0=>rw[h']at hj;cases hj;exact⟨r0,c0,rfl,h',rfl⟩
def iJ(w:World)(R:D->Value->Prop)(e:TypeId)(size:Nat)(rows:List (List D))(v:Value):Prop :=
 ∃a cap,v= .slice a rows.length cap/\(0<size/\rows.length<=cap/\cap<=maxLen)/\(∀r∈rows,r.length=size/\ ∀d∈r,d.one=true) /\
  ((a=none/\cap=0)\/ ∃b off cur,a=some ⟨b,off,none⟩/\w.heap[b]? =some (.cells cur e (0,0))/\off+cap*size<=cur.size /\
   ∀(i:Nat) r (j:Nat) d,rows[i]? =some r->r[j]? =some d-> ∃u,cur[off+(i*size+j)]? =some u/\R d u)
theorem iJ.mono{w w' :World}{R R' :D->Value->Prop}{e:TypeId}{size:Nat}{rows:List (List D)}{v:Value}(h:iJ w R e size rows v)(hb:∀b,home v=some b->w'.heap[b]? =w.heap[b]?)(hR:∀d u,R d u->R' d u):iJ w' R' e size rows v:=by
 obtain⟨a,cap,h1,h2,h3,h4⟩:=h;refine⟨a,cap,h1,h2,h3,?_⟩;rcases h4 with h4|⟨b,off,cur,e1,e2,e3,e4⟩
 .exact .inl h4
 .refine .inr ⟨b,off,cur,e1,(hb b (by rw[h1,e1];rfl)).trans e2,e3,λi r j d hi hj=>?_⟩;obtain⟨u,hu,hr⟩:=e4 i r j d hi hj;exact⟨u,hu,hR d u hr⟩
theorem iJ.home{w:World}{R:D->Value->Prop}{e:TypeId}{size:Nat}{rows:List (List D)}{v:Value}(h:iJ w R e size rows v):(∀b,NQ.home v=some b->b<w.heap.size)/\v.oneCell' =true:=by
 obtain⟨a,cap,rfl,h2,h3,h4⟩:=h;refine⟨λb hb=>?_,rfl⟩;rcases h4 with ⟨rfl,_⟩|⟨b',off,cur,rfl,e2,_⟩
 .cases hb
 .cases hb;exact(bI.1 e2).1
def oV(w:World)(O:Nat->Prop)(left:List (List D×D))(cur:Option (List D×D))(v:Value):Prop :=
 ∃b mb es clock seen,v= .pointer (some ⟨b,0,none⟩)/\w.heap[b]? =some (.mapIter (some mb) clock seen clock)/\(¬O mb/\mb<w.heap.size/\w.heap[mb]? =some (.map es clock))/\jN es clock/\((leftOf es seen).size=left.length/\ ∀k x,cur=some (k,x)-> ∃e:MapEntry,(e∈es.toList/\seen.back? =some e.born)/\lG k e.key/\Rep w O x e.val) /\
  ∀(j:Nat) k x,left[j]? =some (k,x)-> ∃e:MapEntry,(leftOf es seen)[j]? =some e/\lG k e.key/\Rep w O x e.val
theorem oV.mono{w w' :World}{O O' :Nat->Prop}{left:List (List D×D)}{cur:Option (List D×D)}{v:Value}(h:oV w O left cur v)(hb:∀b,home v=some b->w'.heap[b]? =w.heap[b]?)(k:bw w w' O O'):oV w' O' left cur v:=by
 obtain⟨b,mb,es,clock,seen,h1,h2,⟨h3,h4,h5⟩,h6,⟨h7,h9⟩,h8⟩:=h;refine⟨b,mb,es,clock,seen,h1,(hb b (by rw[h1];rfl)).trans h2,⟨k.own mb h3 h4,Nat.lt_of_lt_of_le h4 k.size,(k.block mb h3 h4).trans h5⟩,h6,⟨h7,λkk x hc=>by obtain⟨e,e1,e2,e3⟩:=h9 kk x hc;exact⟨e,e1,e2,e3.mono k⟩⟩,λj kk x hj=>?_⟩;obtain⟨e,e1,e2,e3⟩:=h8 j kk x hj;exact⟨e,e1,e2,e3.mono k⟩
def cZ(w:World)(F O L:Nat->Prop)(σ:Nat->Value)(s:Nat):Blk->Prop
 | .box cells => ∃ b cur t, σ s = .pointer (some ⟨b, 0, none⟩) /\ F b /\ w.heap[b]? = some (.cells cur t (0, 0)) /\ cur.size = cells.length /\
     ∀j c,cells[j]? =some c->(c.one=true\/c= .undef)/\aG w O L σ c (cur.getD j Go.undef)
 | .row e size rows fl => ∃ xs, w.ownsRow 0 e size (σ s) rows.length xs /\ (∀ b, home (σ s) = some b -> F b) /\ (0 < size /\ (fl = true -> ∃ a, σ s = .slice a rows.length rows.length)) /\ (∀ r ∈ rows, r.length = size /\ ∀ d ∈ r, d.one = true) /\
     ∀i r j d,rows[i]? =some r->r[j]? =some d-> ∃u,xs[i*size+j]? =some u/\Rep w (Own O L σ) d u
 | .smap m => ∃ b es clock, σ s = .map (some b) /\ F b /\ w.heap[b]? = some (.map es clock) /\ (es.size = m.length /\ jN es clock) /\
     ∀(j:Nat) k v,m[j]? =some (k,v)-> ∃e:MapEntry,es[j]? =some e/\Rep w (Own O L σ) (.str k) e.key/\Rep w (Own O L σ) v e.val
 | .cY m=> ∃b es clock,σ s= .map (some b)/\F b/\w.heap[b]? =some (.map es clock)/\tD (Rep w (Own O L σ)) m es clock
 | .eF _ size rows => ∃ b cur t, σ s = .slice (some ⟨b, 0, none⟩) rows.length rows.length /\ F b /\ w.heap[b]? = some (.cells cur t (0, 0)) /\ (∀ r ∈ rows, r.length = size) /\
     ∀(i:Nat) r (j:Nat) c,rows[i]? =some r->r[j]? =some c->((c.one=true\/c= .undef)/\i*size+j<cur.size)/\aG w O L σ c (cur.getD (i*size+j) Go.undef)
 | .tail e size rows=>iJ w (Rep w (Own O L σ)) e size rows (σ s)/\ ∀b,home (σ s)=some b->F b
 | .iter left cur=>oV w (Own O L σ) left cur (σ s)/\ ∀b,home (σ s)=some b->F b
 | .dJ m => ∃ b es clock, σ s = .map (some b) /\ F b /\ w.heap[b]? = some (.map es clock) /\ (es.size = m.length /\ jN es clock) /\
     ∀(j:Nat) k v,m[j]? =some (k,v)-> ∃e:MapEntry,es[j]? =some e/\eD (.str k) e.key/\aG w O L σ v e.val
theorem tL{α β γ:Type}{f:β->γ}{m:List (α×β)}{j:Nat}{k:α}{v:γ}(h:(m.map λp=>(p.1,f p.2))[j]? =some (k,v)):∃v0,m[j]? =some (k,v0)/\v=f v0:=by
 rw[bc]at h;cases hc:m[j]? with
 |none=>rw[hc]at h;cases h
 |some y=>rw[hc]at h;cases h;exact⟨y.2,rfl,rfl⟩
theorem cZ.home{w:World}{F O L:Nat->Prop}{σ:Nat->Value}{s:Nat}{b:Blk}(h:cZ w F O L σ s b):(∀g,NQ.home (σ s)=some g->F g/\g<w.heap.size)/\(σ s).oneCell' =true:=by
 cases b with
 |box cells =>
  obtain⟨b,cur,t,h1,h2,h3,_⟩:=h;rw[h1];refine⟨λg hg=>?_,rfl⟩;cases hg;exact⟨h2,(bI.1 h3).1⟩
 |row e size rows fl =>
  obtain⟨xs,h1,h2,_⟩:=h;refine⟨λg hg=>⟨h2 g hg,?_⟩,?_⟩
  .rcases h1.2 with ⟨e,_⟩|⟨g',cap,cur,e,_,h3,_⟩
   .rw[e]at hg;cases hg
   .rw[e]at hg;cases hg;exact(bI.1 h3).1
  .rcases h1.2 with ⟨e,_⟩|⟨g',cap,cur,e,_⟩ <;> rw[e] <;> rfl
 |smap m =>
  obtain⟨b,es,clock,h1,h2,h3,_⟩:=h;rw[h1];refine⟨λg hg=>?_,rfl⟩;cases hg;exact⟨h2,(bI.1 h3).1⟩
 |cY m =>
  obtain⟨b,es,clock,h1,h2,h3,_⟩:=h;rw[h1];refine⟨λg hg=>?_,rfl⟩;cases hg;exact⟨h2,(bI.1 h3).1⟩
 |eF e size rows =>
  obtain⟨b,cur,t,h1,h2,h3,_⟩:=h;rw[h1];refine⟨λg hg=>?_,rfl⟩;cases hg;exact⟨h2,(bI.1 h3).1⟩
 |tail e size rows=>exact⟨λg hg=>⟨h.2 g hg,h.1.home.1 g hg⟩,h.1.home.2⟩
 |iter left cur =>
  obtain⟨⟨b,mb,es,clock,seen,h1,h2,_⟩,hF⟩:=h;refine⟨λg hg=>⟨hF g hg,?_⟩,by rw[h1];rfl⟩;rw[h1]at hg;cases hg;exact(bI.1 h2).1
 |dJ m =>
  obtain⟨b,es,clock,h1,h2,h3,_⟩:=h;rw[h1];refine⟨λg hg=>?_,rfl⟩;cases hg;exact⟨h2,(bI.1 h3).1⟩
theorem cZ.mono{w w' :World}{F O O' L L' :Nat->Prop}{σ σ' :Nat->Value}(k:bw w w' (Own O L σ) (Own O' L' σ'))(hs:∀s,L s->L' s/\σ' s=σ s){s:Nat}{b:Blk}(hL:L s)
 (hb:∀g,NQ.home (σ s)=some g->w'.heap[g]? =w.heap[g]?) (h:cZ w F O L σ s b):cZ w' F O' L' σ' s b:=by
 cases b with
 |box cells =>
  obtain⟨b,cur,t,h1,h2,h3,h4,h5⟩:=h;exact⟨b,cur,t,(hs s hL).2.trans h1,h2,(hb b (by rw[h1];rfl)).trans h3,h4,λj c hc=>⟨(h5 j c hc).1,(h5 j c hc).2.mono k hs⟩⟩
 |row e size rows fl =>
  obtain⟨xs,h1,h2,h3,h4,h5⟩:=h;refine⟨xs,?_,?_,⟨h3.1,λe=>by rw[(hs s hL).2];exact h3.2 e⟩,h4,λi r j d hi hj=>?_⟩
  .rw[(hs s hL).2];refine⟨h1.1,?_⟩;rcases h1.2 with h|⟨g,cap,cur,e1,e2,e3,e4⟩
   .exact .inl h
   .exact .inr ⟨g,cap,cur,e1,e2,(hb g (by rw[e1];rfl)).trans e3,e4⟩
  .rw[(hs s hL).2];exact h2
  .obtain⟨u,hu,hr⟩:=h5 i r j d hi hj;exact⟨u,hu,hr.mono k⟩
 |smap m =>
  obtain⟨b,es,clock,h1,h2,h3,h4,h5⟩:=h;refine⟨b,es,clock,(hs s hL).2.trans h1,h2,(hb b (by rw[h1];rfl)).trans h3,h4,λj kk v hj=>?_⟩;obtain⟨e,he,hk,hv⟩:=h5 j kk v hj;exact⟨e,he,hk.mono k,hv.mono k⟩
 |cY m =>
  obtain⟨b,es,clock,h1,h2,h3,h4⟩:=h;exact⟨b,es,clock,(hs s hL).2.trans h1,h2,(hb b (by rw[h1];rfl)).trans h3,h4.mono λ_ _ h=>h.mono k⟩
 |eF e size rows =>
  obtain⟨b,cur,t,h1,h2,h3,h4,h5⟩:=h;exact⟨b,cur,t,(hs s hL).2.trans h1,h2,(hb b (by rw[h1];rfl)).trans h3,h4,λi r j c hi hj=>⟨(h5 i r j c hi hj).1,(h5 i r j c hi hj).2.mono k hs⟩⟩
 |tail e size rows =>
  show iJ w' _ e size rows (σ' s)/\_
  rw[(hs s hL).2];exact⟨h.1.mono hb λ_ _ hr=>hr.mono k,h.2⟩
 |iter left cur =>
  show oV w' _ left cur (σ' s)/\_
  rw[(hs s hL).2];exact⟨h.1.mono hb k,h.2⟩
 |dJ m =>
  obtain⟨b,es,clock,h1,h2,h3,h4,h5⟩:=h;refine⟨b,es,clock,(hs s hL).2.trans h1,h2,(hb b (by rw[h1];rfl)).trans h3,h4,λj kk v hj=>?_⟩;obtain⟨e,he,hk,hv⟩:=h5 j kk v hj;exact⟨e,he,hk,hv.mono k hs⟩
structure Holds(w:World)(F O:Nat->Prop)(h:List (Nat×Blk))(σ:Nat->Value):Prop where
 blk:∀s b,find h s=some b->cZ w F O (live h) σ s b
 inj:∀s s' b,live h s->live h s' ->home (σ s)=some b->home (σ s')=some b->s=s'
theorem aH{h:List (Nat×Blk)}{s:Nat}:live h s ↔ ∃b,find h s=some b:=by
 unfold live;cases find h s <;> simp
inductive K where
 |int (k:IntKind)|bool|str|slice (e:TypeId)|array (n:Nat) (e:TypeId)|struct (fs:List (Nat×TypeId))|map (k e:TypeId)|other
 deriving DecidableEq
def K.isAgg:K->Bool
 | .array _ _| .struct _=>true
 |_=>false
def kindOf:TypeDesc->K
 | .int k=> .int k
 | .bool=> .bool
 | .string=> .str
 | .slice e=> .slice e
 | .array n e=> .array n e
 | .struct fs=> .struct (fs.toList.map λf=>(f.offset,f.type))
 | .map k e=> .map k e
 |_=> .other
structure TI where
 size:Nat
 bytes:Nat
 kind:K
 zero:List AV
def yB(P:Program)(t:TypeId)(ks:List K):Prop:= ∃fs:Array Field,P.underlying t=some (.struct fs)/\P.stoodInHeld t=false/\P.eqGuardType P.depth t=false/\fs.toList.length=ks.length /\
 ∀(i:Nat) f k,fs.toList[i]? =some f->ks[i]? =some k->f.offset=i/\f.name≠ "_" /\ ∃desc,P.underlying f.type=some desc/\kindOf desc=k
structure Cx where
 P:Program
 ty:TypeId->Option TI
 gl:Nat->Option (List D)
 chg:Nat->Nat:=λ_=>0
 eqT:TypeId->Option (List K):=λ_=>none
 PJ:∀t ks,eqT t=some ks->yB P t ks:=by intro t ks h;cases h
 bld:List Nat:=[]
def jC(cx:Cx)(w:World):Prop:= ∀g cells,cx.gl g=some cells->g<w.heap.size/\cells.all D.fG=true/\ ∀(j:Nat) d,cells[j]? =some d-> ∃u,w.cell? ⟨g,j,none⟩=some u/\Rep w (λ_=>False) d u
structure sO(F:Nat->Prop)(w0 w:World):Prop where
 os:w.os=w0.os
 tape:w.tape=w0.tape
 output:w.output=w0.output
 size:w0.heap.size<=w.heap.size
 block:∀b,¬F b->w.heap[b]? =w0.heap[b]?
def jA:AV->Value->Prop
 | .d (.int k n),v=>v= .int k n
 | .d (.bool b),v=>v= .bool b
 | .d (.str s),v=>v= .string ⟨s.toArray⟩
 | .nil _,v=>v= .slice none 0 0
 | .d .iy,v=>v= .map none
 | .undef,_=>True
 |_,_=>False
def bD(cx:Cx):Prop:= ∀t ti,cx.ty t=some ti-> ∃info desc z,cx.P.info? t=some info/\cx.P.underlying t=some desc/\kindOf desc=ti.kind/\info.size=ti.size/\info.bytes=ti.bytes /\
 info.zero=some z/\z.cells.size=ti.zero.length/\ti.size=ti.zero.length/\(∀(j:Nat) c,ti.zero[j]? =some c->jA c (z.cells.getD j Go.undef))/\(match ti.kind.isAgg with|true=>z.oneCell' =false/\ ∃vs,z= .agg vs|false=>z.oneCell' =true)
structure Env where
 F:Nat->Prop
 O:Nat->Prop
 w0:World
 nt:Nat
 fix:Nat->Option Nat:=λ_=>none
 dfr:List Deferred:=[]
structure bN(cx:Cx)(E:Env)(st:St)(σ:Nat->Value)(a:Act)(w:World):Prop where
 frame:sO E.F E.w0 w
 new:∀b,E.w0.heap.size<=b->E.F b
 apart:∀b,E.O b-> ¬E.F b
 defers:a.defers=E.dfr
 nt:a.tmps.size=E.nt
 aV:∀t,aG w E.O (live st.heap) σ (st.get t) (a.tmps.getD t Go.undef)
 holds:Holds w E.F E.O st.heap σ
 fI:jC cx E.w0
 dQ:∀g cells,cx.gl g=some cells-> ¬E.F g/\ ¬E.O g
 fix:∀q0 B,E.fix q0=some B->(E.nt<=100000/\100000<=q0)/\(live st.heap q0->σ q0= .pointer (some ⟨B,0,none⟩))
def Sim(cx:Cx)(E:Env)(st:St)(a:Act)(w:World):Prop:= ∃σ,bN cx E st σ a w
theorem bk{α:Type}(k:Nat)(x:α)(t:List (Nat×α)):find ((k,x)::t) k=some x:=by
 simp[find]
theorem bl{α:Type}{k i:Nat}(x:α)(t:List (Nat×α))(h:k≠i):find ((k,x)::t) i=find t i:=by
 have:Nat.beq k i=false:=by rw[<- Bool.not_eq_true];exact λe=>h (bd e)
 simp[find,this]
theorem sm{α:Type}(l m:List (Nat×α))(i:Nat):find (l++m) i=(find l i).or (find m i):=by
 induction l with
 |nil=>simp[find]
 |cons p t ih =>
  obtain⟨k,x⟩:=p;by_cases h:k=i
  .subst h;rw[List.cons_append,bk,bk];rfl
  .rw[List.cons_append,bl _ _ h,bl _ _ h,ih]
def bF(l:List (Nat×AV))(d:Option Nat)(v:AV):List (Nat×AV):=match d with|some d=>(d,v)::l|none=>l
def St.put(st:St)(d:Option Nat)(v:AV)(bs:List (Nat×Blk)):St:=⟨bF st.aV d v,bs++st.heap⟩
theorem St.fX(st:St)(d:Option Nat)(v:AV)(bs:List (Nat×Blk))(t:Nat):(st.put d v bs).get t=if d=some t then v else st.get t:=by
 unfold St.put St.get bF;cases d with
 |none=>simp
 |some d =>
  by_cases h:d=t
  .subst h;simp[bk]
  .simp[bl _ _ h,h]
structure St.le(st st' :St):Prop where
 slot:∀t,st.get t= .undef\/st'.get t=st.get t
 heap:∀s b,find st.heap s=some b->find st'.heap s=some b
theorem St.le.refl(st:St):st.le st:=⟨λ_=> .inr rfl,λ_ _ h=>h⟩
def na:Value->AV
 | .int k n=> .d (.int k n)
 | .bool b=> .d (.bool b)
 | .string s=> .d (.str s.data.toList)
 | .slice none 0 0=> .nil 0
 |_=> .undef
def ofConst:Value->AV
 | .agg cs=> .agg (cs.toList.map na)
 |v=>na v
theorem wu(w:World)(O L:Nat->Prop)(σ:Nat->Value)(v:Value):aG w O L σ (na v) v:=by
 unfold na;split
 .exact .d _ _ (.int _ _)
 .exact .d _ _ (.bool _)
 .exact .d _ _ (.str _ _ rfl)
 .exact .nil _
 .exact .undef _
theorem Ig(w:World)(O L:Nat->Prop)(σ:Nat->Value)(v:Value):aG w O L σ (ofConst v) v:=by
 unfold ofConst;split
 .rename_i cs;refine .agg _ _ (by simp) λj c hj=>?_
  rw[bc]at hj;cases hc:cs.toList[j]? with
  |none=>rw[hc]at hj;cases hj
  |some u =>
   rw[hc]at hj;cases hj;have:cs.getD j Go.undef=u:=by rw[bx]at hc;simp[hc]
   rw[this];exact wu w O L σ u
 .exact wu w O L σ v
def St.ev(cx:Cx)(st:St):Operand->AV
 | .tmp t=>st.get t
 | .const v=>ofConst v
 | .global g=>match cx.gl g with|some cells=> .d (.ptr cells)|none=> .undef
 | .func f=> .d (.fn f [] [])
section
variable {cx:Cx} {E:Env} {st st' :St} {σ:Nat->Value} {a:Act} {w:World}
theorem bN.ev(h:bN cx E st' σ a w)(hle:st.le st')(x:Operand):aG w E.O (live st'.heap) σ (st.ev cx x) (a.eval x):=by
 cases x with
 |tmp t =>
  show aG _ _ _ _ (st.get t) _
  rcases hle.slot t with e|e
  .rw[e];exact .undef _
  .rw[<- e];exact h.aV t
 |const v=>exact Ig _ _ _ _ _
 |global g =>
  show aG _ _ _ _ (match cx.gl g with|some cells=>AV.d (.ptr cells)|none=> .undef) _
  cases hg:cx.gl g with
  |none=>exact .undef _
  |some cells =>
   obtain⟨h1,h2,h3⟩:=h.fI g cells hg;obtain⟨hF,hP⟩:=h.dQ g cells hg;have hO:¬Own E.O (live st'.heap) σ g:=by
    rintro(ho|⟨s,hs,e⟩)
    .exact hP ho
    .obtain⟨b,hb⟩:=aH.1 hs;exact hF ((h.holds.blk s b hb).home.1 g e).1
   refine .d _ _ (.ptr cells g 0 (λj=>(E.w0.cell? ⟨g,j,none⟩).getD Go.undef) hO (Nat.lt_of_lt_of_le h1 h.frame.size) (λd hd=>?_) (λj d hj=>?_) (λj d hj=>?_))
   .have:=aI.1 h2 d hd;cases d <;> first|rfl|cases this
   .obtain⟨u,hu,_⟩:=h3 j d hj;rw[hu,Nat.zero_add,World.cell?_of_block (a:=⟨g,j,none⟩) (h.frame.block g hF)];exact hu
   .obtain⟨u,hu,hr⟩:=h3 j d hj;rw[hu];exact hr.fG (aI.1 h2 d (aD hj))
 |func f=>exact .d _ _ (.fn f [] [] #[] #[] rfl rfl (λj d hj=>by simp at hj) (λj d hj=>by simp at hj) (λj m hj=>by simp at hj))
theorem iP{a:Act}{d:Option Nat}{u:Value}{t:Nat}(hd:∀e,d=some e->e<a.tmps.size):(a.put d u).tmps.getD t Go.undef=if d=some t then u else a.tmps.getD t Go.undef:=by
 cases d with
 |none=>simp[Act.put]
 |some d =>
  have:=hd d rfl;simp only[Act.put,bM,Option.some.injEq];by_cases h:d=t
  .subst h;simp[this]
  .rw[Array.getElem?_setIfInBounds_ne h,if_neg h]
theorem bN.put(h:bN cx E st σ a w){d:Option Nat}{v:AV}{u:Value}(hd:∀e,d=some e->e<E.nt)(hr:aG w E.O (live st.heap) σ v u) :
 bN cx E (st.put d v []) σ (a.put d u) w:=by
 refine⟨h.frame,h.new,h.apart,?_,?_,λt=>?_,h.holds,h.fI,h.dQ,h.fix⟩
 .cases d <;> exact h.defers
 .cases d <;> simp[Act.put,h.nt]
 .rw[St.fX,iP (by rw[h.nt];exact hd)];by_cases e:d=some t
  .rw[if_pos e,if_pos e];exact hr
  .rw[if_neg e,if_neg e];exact h.aV t
theorem cJ{bs h:List (Nat×Blk)}{s:Nat}:live (bs++h) s ↔ live bs s\/live h s:=by
 unfold live;rw[sm];cases find bs s <;> simp
theorem Holds.home{F O:Nat->Prop}{hp:List (Nat×Blk)}(h:Holds w F O hp σ){s b:Nat}(hs:live hp s)(hb:NQ.home (σ s)=some b):F b/\b<w.heap.size:=by
 obtain⟨x,hx⟩:=aH.1 hs;exact(h.blk s x hx).home.1 b hb
theorem bN.grow(h:bN cx E st σ a w){w' :World}{d:Option Nat}{v:AV}{u:Value}{bs:List (Nat×Blk)}{σ' :Nat->Value}(hd:∀e,d=some e->e<E.nt)
 (hσ:∀s,live st.heap s->σ' s=σ s) (hq:Below w.heap.size w w')
 (hQ:∀q0 B,E.fix q0=some B-> ¬live bs q0) (hA:∀s b,live bs s->NQ.home (σ' s)=some b->w.heap.size<=b) (hI:∀s s' b,live bs s->live bs s' ->NQ.home (σ' s)=some b->NQ.home (σ' s')=some b->s=s')
 (hblk:∀s b,find bs s=some b->cZ w' E.F E.O (live (bs++st.heap)) σ' s b) (hr:aG w' E.O (live (bs++st.heap)) σ' v u):bN cx E (st.put d v bs) σ' (a.put d u) w' :=by
 have hT:E.w0.heap.size<=w.heap.size:=h.frame.size;have k1:bw w w' (Own E.O (live st.heap) σ) (Own E.O (live (bs++st.heap)) σ'):=by
  refine⟨hq.size,λb _ hb=>hq.block b hb,λb hn hb ho=>?_⟩;rcases ho with ho|⟨s,hs,e⟩
  .exact hn (.inl ho)
  .rcases cJ.1 hs with hs|hs
   .have:=hA s b hs e;omega
   .rw[hσ s hs]at e;exact hn (.inr ⟨s,hs,e⟩)
 have s1:∀s,live st.heap s->live (bs++st.heap) s/\σ' s=σ s:=λs hs=>⟨cJ.2 (.inr hs),hσ s hs⟩
 refine⟨⟨hq.os.trans h.frame.os,hq.tape.trans h.frame.tape,hq.output.trans h.frame.output,Nat.le_trans h.frame.size hq.size,λb hb=>?_⟩,h.new,h.apart,?_,?_,λt=>?_,⟨λs b hs=>?_,λs s' b hs hS hb hz =>?_⟩,h.fI,h.dQ,λq0 B hB=>⟨(h.fix q0 B hB).1,λhl=>?_⟩⟩
 .have ht:b<w.heap.size:=by
   rcases Nat.lt_or_ge b w.heap.size with ht|hge
   .exact ht
   .exact absurd (h.new b (Nat.le_trans hT hge)) hb
  exact(hq.block b ht).trans (h.frame.block b hb)
 .cases d <;> exact h.defers
 .cases d <;> simp[Act.put,h.nt]
 .rw[St.fX,iP (by rw[h.nt];exact hd)];by_cases e:d=some t
  .rw[if_pos e,if_pos e];exact hr
  .rw[if_neg e,if_neg e];exact(h.aV t).mono k1 s1
 .have hD:find (bs++st.heap) s=some b:=hs;rw[sm]at hD;cases hx:find bs s with
  |some x=>rw[hx]at hD;cases hD;exact hblk s b hx
  |none =>
   rw[hx]at hD;have hN:find st.heap s=some b:=by simpa using hD
   have hl:live st.heap s:=aH.2 ⟨b,hN⟩;exact(h.holds.blk s b hN).mono k1 s1 hl λg hg=>hq.block g (h.holds.home hl hg).2
 .rcases cJ.1 hs with l1|l1 <;> rcases cJ.1 hS with l2|l2
  .exact hI s s' b l1 l2 hb hz
  .have:=hA s b l1 hb;rw[hσ s' l2]at hz;have:=(h.holds.home l2 hz).2;omega
  .have:=hA s' b l2 hz;rw[hσ s l1]at hb;have:=(h.holds.home l1 hb).2;omega
  .rw[hσ s l1]at hb;rw[hσ s' l2]at hz;exact h.holds.inj s s' b l1 l2 hb hz
 .have hl:live (bs++st.heap) q0:=hl;rcases cJ.1 hl with l|l
  .exact absurd l (hQ q0 B hB)
  .rw[hσ _ l];exact(h.fix q0 B hB).2 l
theorem bN.Vd(h:bN cx E st σ a w){s g:Nat}{w' :World}{d:Option Nat}{v:AV}{u:Value}(hd:∀e,d=some e->e<E.nt)(hl:live st.heap s)(hg:NQ.home (σ s)=some g)
 (h1:w'.os=w.os) (h2:w'.tape=w.tape) (h3:w'.output=w.output) (h4:w.heap.size<=w'.heap.size) (h5:∀k,k<w.heap.size->k≠g->w'.heap[k]? =w.heap[k]?)
 (hb:∀b,find st.heap s=some b->cZ w' E.F E.O (live st.heap) σ s b) (hr:aG w' E.O (live st.heap) σ v u):bN cx E (st.put d v []) σ (a.put d u) w' :=by
 have hE:Own E.O (live st.heap) σ g:= .inr ⟨s,hl,hg⟩;have hk:bw w w' (Own E.O (live st.heap) σ) (Own E.O (live st.heap) σ):=⟨h4,λx hx ht=>h5 x ht λe=>hx (e ▸ hE),λ_ hx _=>hx⟩
 have hs:∀s,live st.heap s->live st.heap s/\σ s=σ s:=λs h=>⟨h,rfl⟩
 refine⟨⟨h1.trans h.frame.os,h2.trans h.frame.tape,h3.trans h.frame.output,Nat.le_trans h.frame.size h4,λx hx=>?_⟩,h.new,h.apart,?_,?_,λt=>?_,⟨λs' b' hz =>?_,h.holds.inj⟩,h.fI,h.dQ,h.fix⟩
 .have ht:x<w.heap.size:=by
   rcases Nat.lt_or_ge x w.heap.size with ht|hge
   .exact ht
   .exact absurd (h.new x (Nat.le_trans h.frame.size hge)) hx
  rw[h5 x ht λe=>hx (e ▸ (h.holds.home hl hg).1)];exact h.frame.block x hx
 .cases d <;> exact h.defers
 .cases d <;> simp[Act.put,h.nt]
 .rw[St.fX,iP (by rw[h.nt];exact hd)];by_cases e:d=some t
  .rw[if_pos e,if_pos e];exact hr
  .rw[if_neg e,if_neg e];exact(h.aV t).mono hk hs
 .have hG:find st.heap s' =some b' :=hz;by_cases e:s' =s
  .subst e;exact hb b' hG
  .have hJ :live st.heap s' :=aH.2 ⟨b',hG⟩;exact(h.holds.blk s' b' hG).mono hk hs hJ λx hx=>h5 x (h.holds.home hJ hx).2 λe' =>e (h.holds.inj s' s g hJ hl (e' ▸ hx) hg)
end
end NQ
