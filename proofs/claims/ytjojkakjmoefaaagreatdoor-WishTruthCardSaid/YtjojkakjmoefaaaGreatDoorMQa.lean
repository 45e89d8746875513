/-
  Merged texts.
-/
import Derived.Test.YtjojkakjmoefaaaGreatDoorAbM
import Derived.Below
import Derived.Laws.AppendOwn
import Derived.Laws.OwnMore
import Derived.Laws.MakeOwn
import Derived.Orders
import Derived.KernelRfl
import Derived.Maps.RangeRun
set_option linter.all false

namespace NQ
open Go Go.RowKit
inductive D where
 |int (k:IntKind) (n:Int)
 |bool (b:Bool)
 |str (s:List UInt8)
 |slice (size:Nat) (rows:List (List D))
 |agg (cells:List D)
 |tuple (vs:List D)
 |ptr (cells:List D)
 |fn (f:FuncId) (first ha:List D)
 |cS (m:List (List D×D))
 |jg
 deriving Inhabited
def D.one:D->Bool
 | .agg _| .tuple _=>false
 |_=>true
def D.gP:D->Bool
 | .int _ _| .bool _| .str _=>true
 |_=>false
def D.flat:D->Bool
 | .int _ _| .bool _| .str _=>true
 | .agg cs=>cs.all D.gP
 | .tuple vs=>vs.all fun| .agg cs=>cs.all D.gP|x=>x.gP
 |_=>false
def fq:D->Value->Prop
 | .int k n,v=>v= .int k n
 | .bool b,v=>v= .bool b
 | .str s,v=> ∃b:ByteArray,v= .string b/\b.data.toList=s
 |_,_=>False
def oF(cells:List D)(v:Value):Prop:=(∃d,cells=[.tuple [d]]/\fq d v)\/ ∃vs:Array Value,v= .agg vs/\vs.size=cells.length/\ ∀(j:Nat) d,cells[j]? =some d->fq d (vs.getD j undef)
def my(es:Array MapEntry)(j:Nat):Prop:=(∀x∈es.toList,x.born<j)/\(es.toList.map (·.born)).Nodup
def EN(j:Nat):my #[] j:=⟨λx D=>by simp at D,by simp⟩
variable {es:Array MapEntry}{clock:Nat}
def vW(h:my es clock)(k v:Value):my (es.push ⟨k,v,clock⟩)<|clock+1:=by
 refine⟨λx j=>?_,?_⟩
 .rw[Array.toList_push,List.mem_append]at j;rcases j with j|j
  .exact Nat.lt_succ_of_lt<|h.1 x j
  .rw[List.mem_singleton]at j;subst j;exact Nat.lt_succ_self _
 .rw[Array.toList_push,List.map_append];refine List.nodup_append.2 ⟨h.2,by simp,λa G b D=>?_⟩;obtain⟨x,j,rfl⟩:=List.mem_map.1 G;simp only[List.map_cons,List.map_nil,List.mem_singleton]at D;subst D;exact Nat.ne_of_lt<|h.1 x j
def sC(h:my es clock)(i:Nat)(f:MapEntry->MapEntry)(G:∀e,(f e).born=e.born):my (es.modify i f) clock:=by
 have e:(es.modify i f).toList.map (·.born)=es.toList.map (·.born):=by
  apply List.ext_getElem?;intro j;rw[bc,bc,bE,bE,Array.getElem?_modify];split
  .cases es[j]?<;>simp[G]
  .rfl
 refine⟨λx H=>?_,by rw[e];exact h.2⟩;have:x.born∈es.toList.map (·.born):=e ▸ List.mem_map_of_mem H;obtain⟨y,I,D⟩:=List.mem_map.1 this;rw[<- D];exact h.1 y I
def wU(R:D->Value->Prop)(m:List<|List D×D)(es:Array MapEntry)(G:Nat):Prop:=(es.size=m.length/\my es G)/\ ∀(j:Nat) k v,m[j]? =some (k,v)-> ∃e:MapEntry,es[j]? =some e/\oF k e.key/\R v e.val
variable {R R':D->Value->Prop}{m:List (List D×D)}
def wU.mono(h:∀d v,R d v->R' d v)(D:wU R m es clock):wU R' m es clock :=
 ⟨D.1,λj k v I=>by obtain⟨e,h1,G,H⟩:=D.2 j k v I;exact⟨e,h1,G,h _ _ H⟩⟩
inductive Rep (w:World) (O:Nat->Prop):D->Value->Prop
 |int (k:IntKind) (n:Int):Rep w O (.int k n) (.int k n)
 |bool (b:Bool):Rep w O (.bool b) (.bool b)
 |str (s:List UInt8) (b:ByteArray) (h:b.data.toList=s):Rep w O (.str s) (.string b)
 |empty (sz:Nat) (a:Option Addr) (cap:Nat):Rep w O (.slice sz []) (.slice a 0 cap)
 | slice (sz : Nat) (rows : List (List D)) (B off n cap : Nat) (us : Nat -> Nat -> Value) (hn : rows.length = n) (hO : ¬ O B) (hB : B < w.heap.size) (hc : n <= cap)
     (hl:∀r∈rows,r.length=sz/\ ∀d∈r,d.one=true)
     (h1:∀i r j d,rows[i]? =some r->r[j]? =some d->w.cell? ⟨B,off+i*sz+j,none⟩=some (us i j))
     (h2:∀i r j d,rows[i]? =some r->r[j]? =some d->Rep w O d (us i j)) :
     Rep w O (.slice sz rows) (.slice (some ⟨B,off,none⟩) n cap)
 |agg (cells:List D) (vs:Array Value) (hl:vs.size=cells.length) (h1:∀d∈cells,d.one=true) (h:∀j d,cells[j]? =some d->Rep w O d (vs.getD j undef)):Rep w O (.agg cells) (.agg vs)
 |tuple (cells:List D) (vs:Array Value) (hl:vs.size=cells.length) (h:∀j d,cells[j]? =some d->Rep w O d (vs.getD j undef)):Rep w O (.tuple cells) (.tuple vs)
 | ptr (cells : List D) (B off : Nat) (us : Nat -> Value) (hO : ¬ O B) (hB : B < w.heap.size) (hone : ∀ d ∈ cells, d.one = true)
     (h1:∀j d,cells[j]? =some d->w.cell? ⟨B,off+j,none⟩=some (us j)) (h2:∀j d,cells[j]? =some d->Rep w O d (us j)) :
     Rep w O (.ptr cells) (.pointer (some ⟨B,off,none⟩))
 | fn (f : FuncId) (first ha : List D) (xs vs : Array Value) (hx : xs.size = first.length) (hl : vs.size = ha.length) (h1 : ∀ j d, first[j]? = some d -> Rep w O d (xs.getD j undef)) (h2 : ∀ j d, ha[j]? = some d -> Rep w O d (vs.getD j undef))
     (h3:∀(j:Nat) m,ha[j]? =some (.ptr [.cS m])-> ∃B,vs.getD j undef= .pointer (some ⟨B,0,none⟩)) :
     Rep w O (.fn f first ha) (.func (.func f) xs vs)
 | cS (m : List (List D × D)) (b clock : Nat) (es : Array MapEntry) (hO : ¬ O b) (hB : b < w.heap.size) (h : w.heap[b]? = some (.map es clock)) (hs : es.size = m.length /\ my es clock)
     (hk:∀(j:Nat) k v,m[j]? =some (k,v)->oF k (es.getD j default).key) (hv:∀(j:Nat) k v,m[j]? =some (k,v)->Rep w O v (es.getD j default).val):Rep w O (.cS m) (.map (some b))
 |jg:Rep w O .jg (.map none)
variable {w:World}{O:Nat->Prop}
def Rep.ofMap{b:Nat}(K:¬O b)(J:b<w.heap.size)(h:w.heap[b]? =some (.map es clock))(G:wU (Rep w O) m es clock):Rep w O (.cS m)<|.map<|some b:=by
 refine .cS m b clock es K J h G.1 (λj k v D=>?_) λj k v D=>?_
 .obtain⟨e,h1,H,I⟩:=G.2 j k v D;rw[bU,h1];exact H
 .obtain⟨e,h1,H,I⟩:=G.2 j k v D;rw[bU,h1];exact I
def Rep.Ze{u:Value}(h:Rep w O (.cS m) u):∃b D es,u= .map (some b)/\ ¬O b/\b<w.heap.size/\w.heap[b]? =some (.map es D)/\wU (Rep w O) m es D:=by
 cases h with|cS _ b D es K J h I N T =>
  refine⟨b,D,es,rfl,K,J,h,I,λj k v H=>?_⟩;have G:j<es.size:=by rw[I.1];exact(aA.1 H).1
  have e:es.getD j default=es[j]:=by simp[G]
  exact⟨es[j],Array.getElem?_eq_getElem G,e ▸ N j k v H,e ▸ T j k v H⟩
structure bx(w w' :World)(O O' :Nat->Prop):Prop where
 size:w.heap.size<=w'.heap.size
 block:∀b,¬O b->b<w.heap.size->w'.heap[b]? =w.heap[b]?
 own:∀b,¬O b->b<w.heap.size-> ¬O' b
variable {w':World}{O':Nat->Prop}
def bx.cell(k:bx w w' O O'){B off:Nat}(D:¬O B)(j:B<w.heap.size):w'.cell? ⟨B,off,none⟩=w.cell? ⟨B,off,none⟩ :=
 World.cell?_of_block (a:=⟨B,off,none⟩) (k.block B D j)
variable {v:Value}
def Rep.mono(k:bx w w' O O'){d:D}(h:Rep w O d v):Rep w' O' d v:=by
 induction h with
 |int=>exact .int _ _
 |bool=>exact .bool _
 |str s b h=>exact .str s b h
 |empty=>exact .empty _ _ _
 |slice sz rows B off n cap us hn I G Y K h1 _ H =>
  exact .slice sz rows B off n cap us hn (k.own B I G) (Nat.lt_of_lt_of_le G k.size) Y K (λi r j d Z U=>(k.cell I G).trans<|h1 i r j d Z U) H
 |agg cells vs K h1 _ H=>exact .agg cells vs K h1 H
 |tuple cells vs K _ H=>exact .tuple cells vs K H
 |ptr cells B off us I G T h1 _ H=>exact .ptr cells B off us (k.own B I G) (Nat.lt_of_lt_of_le G k.size) T (λj d U=>(k.cell I G).trans<|h1 j d U) H
 |fn f first N xs vs hx K _ _ X V W=>exact .fn f first N xs vs hx K V W X
 |jg=>exact .jg
 |cS m b J es I G h hs hk _ H=>exact .cS m b J es (k.own b I G) (Nat.lt_of_lt_of_le G k.size) ((k.block b I G).trans h) hs hk H
def bx.refl(w:World)(O:Nat->Prop):bx w w O O:=⟨Nat.le_refl _,λ_ _ _=>rfl,λ_ h _=>h⟩
def bx.less(h:∀b,O' b->O b):bx w w O O' :=⟨Nat.le_refl _,λ_ _ _=>rfl,λb j _ h' =>j<|h b h'⟩
def Rep.gP{d:D}(h:Rep w O d v)(j:d.gP=true):Rep w' O' d v:=by
 cases h<;>first|exact .int _ _|exact .bool _|(exact .str _ _<|by assumption)|cases j
def Rep.flat{d:D}(h:Rep w O d v)(G:d.flat=true):Rep w' O' d v:=by
 cases h with
 |int=>exact .int _ _
 |bool=>exact .bool _
 |str s b h=>exact .str s b h
 |agg cells vs J h1 h =>
  simp only[D.flat,aG]at G;exact .agg cells vs J h1 λj d I=>(h j d I).gP<|G d<|aw I
 |tuple cells vs J h =>
  simp only[D.flat,aG]at G;refine .tuple cells vs J λj d I=>?_
  have H:=G d<|aw I;have K:=h j d I;generalize vs.getD j undef=u at K;cases K with
  |agg cells vs J h1 h =>
   simp only[aG]at H;exact .agg cells vs J h1 λj d I=>(h j d I).gP<|H d<|aw I
  |int=>exact .int _ _
  |bool=>exact .bool _
  |str s b h=>exact .str s b h
  |empty=>cases H
  |slice=>cases H
  |tuple=>cases H
  |ptr=>cases H
  |fn=>cases H
  |cS=>cases H
  |jg=>cases H
 |empty=>cases G
 |slice=>cases G
 |ptr=>cases G
 |fn=>cases G
 |cS=>cases G
 |jg=>cases G
def Rep.ky{d:D}(h:Rep w O d v)(h1:d.one=true):v.oneCell' =true:=by
 cases h<;>first|rfl|cases h1
inductive AV where
 |undef
 |d (x:D)
 |nil (sz:Nat)
 |ptr (s off:Nat)
 |own (s:Nat)
 |dy (s size i off:Nat)
 |tl (s size i:Nat)
 |omap (s:Nat)
 |maybe (p:Bool)
 |agg (cs:List AV)
 |tuple (vs:List AV)
 |fn (f:FuncId) (first ha:List AV)
 deriving Inhabited
@[match_pattern] abbrev aj (n:Int):AV:= .d<|.int .i64 n
def AV.one:AV->Bool
 | .d x=>x.one
 | .undef| .agg _| .tuple _=>false
 |_=>true
inductive Blk where
 |box (cells:List AV)
 |row (e:TypeId) (size:Nat) (rows:List (List D)) (fl:Bool:=false)
 |smap (m:List (List UInt8×D))
 |cS (m:List (List D×D))
 |fb (e:TypeId) (size:Nat) (rows:List (List AV))
 |tail (e:TypeId) (size:Nat) (rows:List (List D))
 |iter (left:List (List D×D)) (cur:Option (List D×D))
 |dR (m:List (List UInt8×AV))
 deriving Inhabited
def find{α:Type}:List (Nat×α)->Nat->Option α
 |[],_=>none
 |(k,x)::t,i=>match Nat.beq k i with|true=>some x|false=>find t i
structure St where
 aY:List (Nat×AV)
 heap:List (Nat×Blk)
def St.get(st:St)(t:Nat):AV:=match find st.aY t with|some v=>v|none=> .undef
def home:Value->Option Nat
 | .pointer (some a)=>some a.block
 | .slice (some a) _ _=>some a.block
 | .map r=>r
 |_=>none
def live(h:List<|Nat×Blk)(s:Nat):Prop:=(find h s).isSome=true
def Own(O L:Nat->Prop)(σ:Nat->Value)(b:Nat):Prop:=O b\/ ∃s,L s/\home (σ s)=some b
inductive aC (w:World) (O L:Nat->Prop) (σ:Nat->Value):AV->Value->Prop
 |undef (v:Value):aC w O L σ .undef v
 |d (x:D) (v:Value) (h:Rep w (Own O L σ) x v):aC w O L σ (.d x) v
 |nil (sz:Nat):aC w O L σ (.nil sz) (.slice none 0 0)
 |ptr (s off b:Nat) (hL:L s) (h:σ s= .pointer (some ⟨b,0,none⟩)):aC w O L σ (.ptr s off) (.pointer (some ⟨b,off,none⟩))
 |own (s:Nat) (hL:L s):aC w O L σ (.own s) (σ s)
 |dy (s size i off b n cap o0:Nat) (hL:L s) (h:σ s= .slice (some ⟨b,o0,none⟩) n cap):aC w O L σ (.dy s size i off) (.pointer (some ⟨b,o0+(i*size+off),none⟩))
 |tl (s size i b n cap o0:Nat) (hL:L s) (h:σ s= .slice (some ⟨b,o0,none⟩) n cap):aC w O L σ (.tl s size i) (.slice (some ⟨b,o0+i*size,none⟩) (n-i) (cap-i))
 |omap (s:Nat) (hL:L s):aC w O L σ (.omap s) (σ s)
 |maybe (p b:Bool) (h:b=true->p=true):aC w O L σ (.maybe p) (.bool b)
 |agg (cs:List AV) (vs:Array Value) (hl:vs.size=cs.length) (h:∀j c,cs[j]? =some c->aC w O L σ c (vs.getD j Go.undef)):aC w O L σ (.agg cs) (.agg vs)
 |tuple (cs:List AV) (vs:Array Value) (hl:vs.size=cs.length) (h:∀j c,cs[j]? =some c->aC w O L σ c (vs.getD j Go.undef)):aC w O L σ (.tuple cs) (.tuple vs)
 | fn (f : FuncId) (first ha : List AV) (xs vs : Array Value) (hx : xs.size = first.length) (hl : vs.size = ha.length) (h1 : ∀ j c, first[j]? = some c -> aC w O L σ c (xs.getD j Go.undef))
     (h2:∀j c,ha[j]? =some c->aC w O L σ c (vs.getD j Go.undef)):aC w O L σ (.fn f first ha) (.func (.func f) xs vs)
variable {L L':Nat->Prop}{σ σ':Nat->Value}
def aC.mono(k:bx w w' (Own O L σ)<|Own O' L' σ')(D:∀s,L s->L' s/\σ' s=σ s){c:AV}(h:aC w O L σ c v):aC w' O' L' σ' c v:=by
 induction h with
 |undef=>exact .undef _
 |d x v h=>exact .d x v<|h.mono k
 |nil=>exact .nil _
 |ptr s off b j h=>exact .ptr s off b (D s j).1<|(D s j).2.trans h
 |own s j=>rw[<- (D s j).2];exact .own s (D s j).1
 |dy s size i off b n cap N j h=>exact .dy s size i off b n cap N (D s j).1<|(D s j).2.trans h
 |tl s size i b n cap N j h=>exact .tl s size i b n cap N (D s j).1<|(D s j).2.trans h
 |omap s j=>rw[<- (D s j).2];exact .omap s (D s j).1
 |maybe p b h=>exact .maybe p b h
 |agg cs vs H _ I=>exact .agg cs vs H I
 |tuple cs vs H _ I=>exact .tuple cs vs H I
 |fn f first G xs vs T H _ _ J K=>exact .fn f first G xs vs T H J K
def aC.ky(j:∀s,L s->(σ s).oneCell' =true){c:AV}(h:aC w O L σ c v)(h1:c.one=true):v.oneCell' =true:=by
 cases h<;>first|rfl|(exact j _<|by assumption)|(rename_i h;exact h.ky h1)|cases h1
variable {α:Type}
def CG{β:Type}{f:α->β}{rows:List<|List α}{i j:Nat}{r:List β}{c:β}(D:(rows.map λr=>r.map f)[i]? =some r)(G:r[j]? =some c):∃H I,rows[i]? =some H/\H[j]? =some I/\c=f I:=by
 rw[bc]at D;cases h:rows[i]? with
 |none=>rw[h]at D;cases D
 |some H =>
  rw[h]at D;cases D;rw[bc]at G;cases h' :H[j]? with
  |none=>rw[h']at G;cases G
  |some I=>rw[h']at G;cases G;exact⟨H,I,rfl,h',rfl⟩
def jQ(w:World)(R:D->Value->Prop)(e:TypeId)(size:Nat)(rows:List<|List D)(v:Value):Prop :=
 ∃a cap,v= .slice a rows.length cap/\(0<size/\rows.length<=cap/\cap<=maxLen)/\(∀r∈rows,r.length=size/\ ∀d∈r,d.one=true) /\
  ((a=none/\cap=0)\/ ∃b off cur,a=some ⟨b,off,none⟩/\w.heap[b]? =some (.cells cur e (0,0))/\off+cap*size<=cur.size /\
   ∀(i:Nat) r (j:Nat) d,rows[i]? =some r->r[j]? =some d-> ∃u,cur[off+(i*size+j)]? =some u/\R d u)
variable {rows:List (List D)}
def jQ.mono{e:TypeId}{size:Nat}(h:jQ w R e size rows v)(J:∀b,home v=some b->w'.heap[b]? =w.heap[b]?)(I:∀d u,R d u->R' d u):jQ w' R' e size rows v:=by
 obtain⟨a,cap,h1,G,H,D⟩:=h;refine⟨a,cap,h1,G,H,?_⟩;rcases D with D|⟨b,off,cur,e1,e2,e3,e4⟩
 .exact .inl D
 .refine .inr ⟨b,off,cur,e1,(J b<|by rw[h1,e1];rfl).trans e2,e3,λi r j d K N=>?_⟩;obtain⟨u,U,T⟩:=e4 i r j d K N;exact⟨u,U,I d u T⟩
def jQ.home{e:TypeId}{size:Nat}(h:jQ w R e size rows v):(∀b,NQ.home v=some b->b<w.heap.size)/\v.oneCell' =true:=by
 obtain⟨a,cap,rfl,I,J,G⟩:=h;refine⟨λb j=>?_,rfl⟩;rcases G with ⟨rfl,_⟩|⟨H,off,cur,rfl,D,_⟩
 .cases j
 .cases j;exact(bP.1 D).1
def rH(w:World)(O:Nat->Prop)(left:List<|List D×D)(cur:Option<|List D×D)(v:Value):Prop :=
 ∃b I es G H,v= .pointer (some ⟨b,0,none⟩)/\w.heap[b]? =some (.mapIter (some I) G H G)/\(¬O I/\I<w.heap.size/\w.heap[I]? =some (.map es G))/\my es G/\((leftOf es H).size=left.length/\ ∀k x,cur=some (k,x)-> ∃e:MapEntry,(e∈es.toList/\H.back? =some e.born)/\oF k e.key/\Rep w O x e.val) /\
  ∀(j:Nat) k x,left[j]? =some (k,x)-> ∃e:MapEntry,(leftOf es H)[j]? =some e/\oF k e.key/\Rep w O x e.val
def rH.mono{left:List<|List D×D}{cur:Option<|List D×D}(h:rH w O left cur v)(hb:∀b,home v=some b->w'.heap[b]? =w.heap[b]?)(k:bx w w' O O'):rH w' O' left cur v:=by
 obtain⟨b,U,es,G,H,h1,W,⟨V,N,X⟩,Y,⟨Z,h9⟩,h8⟩:=h;refine⟨b,U,es,G,H,h1,(hb b<|by rw[h1];rfl).trans W,⟨k.own U V N,Nat.lt_of_lt_of_le N k.size,(k.block U V N).trans X⟩,Y,⟨Z,λT x hc=>by obtain⟨e,I,J,K⟩:=h9 T x hc;exact⟨e,I,J,K.mono k⟩⟩,λj T x hj=>?_⟩;obtain⟨e,I,J,K⟩:=h8 j T x hj;exact⟨e,I,J,K.mono k⟩
def du(w:World)(F O L:Nat->Prop)(σ:Nat->Value)(s:Nat):Blk->Prop
 | .box cells => ∃ b cur t, σ s = .pointer (some ⟨b, 0, none⟩) /\ F b /\ w.heap[b]? = some (.cells cur t (0, 0)) /\ cur.size = cells.length /\
     ∀j c,cells[j]? =some c->(c.one=true\/c= .undef)/\aC w O L σ c (cur.getD j Go.undef)
 | .row e size rows fl => ∃ xs, w.ownsRow 0 e size (σ s) rows.length xs /\ (∀ b, home (σ s) = some b -> F b) /\ (0 < size /\ (fl = true -> ∃ a, σ s = .slice a rows.length rows.length)) /\ (∀ r ∈ rows, r.length = size /\ ∀ d ∈ r, d.one = true) /\
     ∀i r j d,rows[i]? =some r->r[j]? =some d-> ∃u,xs[i*size+j]? =some u/\Rep w (Own O L σ) d u
 | .smap m => ∃ b es D, σ s = .map (some b) /\ F b /\ w.heap[b]? = some (.map es D) /\ (es.size = m.length /\ my es D) /\
     ∀(j:Nat) k v,m[j]? =some (k,v)-> ∃e:MapEntry,es[j]? =some e/\Rep w (Own O L σ) (.str k) e.key/\Rep w (Own O L σ) v e.val
 | .cS m=> ∃b es D,σ s= .map (some b)/\F b/\w.heap[b]? =some (.map es D)/\wU (Rep w<|Own O L σ) m es D
 | .fb _ size rows => ∃ b cur t, σ s = .slice (some ⟨b, 0, none⟩) rows.length rows.length /\ F b /\ w.heap[b]? = some (.cells cur t (0, 0)) /\ (∀ r ∈ rows, r.length = size) /\
     ∀(i:Nat) r (j:Nat) c,rows[i]? =some r->r[j]? =some c->((c.one=true\/c= .undef)/\i*size+j<cur.size)/\aC w O L σ c (cur.getD (i*size+j) Go.undef)
 | .tail e size rows=>jQ w (Rep w<|Own O L σ) e size rows (σ s)/\ ∀b,home (σ s)=some b->F b
 | .iter left cur=>rH w (Own O L σ) left cur (σ s)/\ ∀b,home (σ s)=some b->F b
 | .dR m => ∃ b es D, σ s = .map (some b) /\ F b /\ w.heap[b]? = some (.map es D) /\ (es.size = m.length /\ my es D) /\
     ∀(j:Nat) k v,m[j]? =some (k,v)-> ∃e:MapEntry,es[j]? =some e/\fq (.str k) e.key/\aC w O L σ v e.val
def wX{β γ:Type}{f:β->γ}{m:List<|α×β}{j:Nat}{k:α}{v:γ}(h:(m.map λp=>(p.1,f p.2))[j]? =some (k,v)):∃v0,m[j]? =some (k,v0)/\v=f v0:=by
 rw[bc]at h;cases D:m[j]? with
 |none=>rw[D]at h;cases h
 |some y=>rw[D]at h;cases h;exact⟨y.2,rfl,rfl⟩
def du.home{F:Nat->Prop}{s:Nat}{b:Blk}(h:du w F O L σ s b):(∀g,NQ.home (σ s)=some g->F g/\g<w.heap.size)/\(σ s).oneCell' =true:=by
 cases b with
 |box cells =>
  obtain⟨b,cur,t,h1,G,H,_⟩:=h;rw[h1];refine⟨λg j=>?_,rfl⟩;cases j;exact⟨G,(bP.1 H).1⟩
 |row e size rows fl =>
  obtain⟨xs,h1,G,_⟩:=h;refine⟨λg j=>⟨G g j,?_⟩,?_⟩
  .rcases h1.2 with ⟨e,_⟩|⟨J,cap,cur,e,_,H,_⟩
   .rw[e]at j;cases j
   .rw[e]at j;cases j;exact(bP.1 H).1
  .rcases h1.2 with ⟨e,_⟩|⟨J,cap,cur,e,_⟩<;>rw[e]<;>rfl
 |smap m =>
  obtain⟨b,es,D,h1,G,H,_⟩:=h;rw[h1];refine⟨λg j=>?_,rfl⟩;cases j;exact⟨G,(bP.1 H).1⟩
 |cS m =>
  obtain⟨b,es,D,h1,G,H,_⟩:=h;rw[h1];refine⟨λg j=>?_,rfl⟩;cases j;exact⟨G,(bP.1 H).1⟩
 |fb e size rows =>
  obtain⟨b,cur,t,h1,G,H,_⟩:=h;rw[h1];refine⟨λg j=>?_,rfl⟩;cases j;exact⟨G,(bP.1 H).1⟩
 |tail e size rows=>exact⟨λg j=>⟨h.2 g j,h.1.home.1 g j⟩,h.1.home.2⟩
 |iter left cur =>
  obtain⟨⟨b,N,es,D,I,h1,G,_⟩,K⟩:=h;refine⟨λg j=>⟨K g j,?_⟩,by rw[h1];rfl⟩;rw[h1]at j;cases j;exact(bP.1 G).1
 |dR m =>
  obtain⟨b,es,D,h1,G,H,_⟩:=h;rw[h1];refine⟨λg j=>?_,rfl⟩;cases j;exact⟨G,(bP.1 H).1⟩
def du.mono{F:Nat->Prop}(k:bx w w' (Own O L σ)<|Own O' L' σ')(G:∀s,L s->L' s/\σ' s=σ s){s:Nat}{b:Blk}(N:L s)
 (T:∀g,NQ.home (σ s)=some g->w'.heap[g]? =w.heap[g]?) (h:du w F O L σ s b):du w' F O' L' σ' s b:=by
 cases b with
 |box cells =>
  obtain⟨b,cur,t,h1,I,H,J,K⟩:=h;exact⟨b,cur,t,(G s N).2.trans h1,I,(T b<|by rw[h1];rfl).trans H,J,λj c hc=>⟨(K j c hc).1,(K j c hc).2.mono k G⟩⟩
 |row e size rows fl =>
  obtain⟨xs,h1,I,H,J,K⟩:=h;refine⟨xs,?_,?_,⟨H.1,λe=>by rw[(G s N).2];exact H.2 e⟩,J,λi r j d V U=>?_⟩
  .rw[(G s N).2];refine⟨h1.1,?_⟩;rcases h1.2 with h|⟨g,cap,cur,e1,e2,e3,e4⟩
   .exact .inl h
   .exact .inr ⟨g,cap,cur,e1,e2,(T g<|by rw[e1];rfl).trans e3,e4⟩
  .rw[(G s N).2];exact I
  .obtain⟨u,hu,Y⟩:=K i r j d V U;exact⟨u,hu,Y.mono k⟩
 |smap m =>
  obtain⟨b,es,D,h1,I,H,J,K⟩:=h;refine⟨b,es,D,(G s N).2.trans h1,I,(T b<|by rw[h1];rfl).trans H,J,λj kk v U=>?_⟩;obtain⟨e,W,X,Z⟩:=K j kk v U;exact⟨e,W,X.mono k,Z.mono k⟩
 |cS m =>
  obtain⟨b,es,D,h1,I,H,J⟩:=h;exact⟨b,es,D,(G s N).2.trans h1,I,(T b<|by rw[h1];rfl).trans H,J.mono λ_ _ h=>h.mono k⟩
 |fb e size rows =>
  obtain⟨b,cur,t,h1,I,H,J,K⟩:=h;exact⟨b,cur,t,(G s N).2.trans h1,I,(T b<|by rw[h1];rfl).trans H,J,λi r j c V U=>⟨(K i r j c V U).1,(K i r j c V U).2.mono k G⟩⟩
 |tail e size rows =>
  show jQ w' _ e size rows (σ' s)/\_
  rw[(G s N).2];exact⟨h.1.mono T λ_ _ Y=>Y.mono k,h.2⟩
 |iter left cur =>
  show rH w' _ left cur (σ' s)/\_
  rw[(G s N).2];exact⟨h.1.mono T k,h.2⟩
 |dR m =>
  obtain⟨b,es,D,h1,I,H,J,K⟩:=h;refine⟨b,es,D,(G s N).2.trans h1,I,(T b<|by rw[h1];rfl).trans H,J,λj kk v U=>?_⟩;obtain⟨e,W,X,Z⟩:=K j kk v U;exact⟨e,W,X,Z.mono k G⟩
structure Holds(w:World)(F O:Nat->Prop)(h:List (Nat×Blk))(σ:Nat->Value):Prop where
 blk:∀s b,find h s=some b->du w F O (live h) σ s b
 inj:∀s s' b,live h s->live h s' ->home (σ s)=some b->home (σ s')=some b->s=s'
def aH{h:List<|Nat×Blk}{s:Nat}:live h s ↔ ∃b,find h s=some b:=by
 unfold live;cases find h s<;>simp
inductive K where
 |int (k:IntKind)|bool|str|slice (e:TypeId)|array (n:Nat) (e:TypeId)|struct (fs:List (Nat×TypeId))|map (k e:TypeId)|other
 deriving DecidableEq
def K.isAgg:K->Bool
 | .array _ _| .struct _=>true
 |_=>false
def kindOf:TypeDesc->K
 | .int k=> .int k
 | .bool=> .bool
 | .string=> .str
 | .slice e=> .slice e
 | .array n e=> .array n e
 | .struct j=> .struct (j.toList.map λf=>(f.offset,f.type))
 | .map k e=> .map k e
 |_=> .other
structure TI where
 size:Nat
 bytes:Nat
 kind:K
 zero:List AV
def BY(P:Program)(t:TypeId)(G:List K):Prop:= ∃D:Array Field,P.underlying t=some (.struct D)/\P.stoodInHeld t=false/\P.eqGuardType P.depth t=false/\D.toList.length=G.length /\
 ∀(i:Nat) f k,D.toList[i]? =some f->G[i]? =some k->f.offset=i/\f.name≠ "_" /\ ∃j,P.underlying f.type=some j/\kindOf j=k
structure Cx where
 P:Program
 ty:TypeId->Option TI
 gl:Nat->Option (List D)
 chg:Nat->Nat:=λ_=>0
 eqT:TypeId->Option (List K):=λ_=>none
 WC:∀t ks,eqT t=some ks->BY P t ks:=by intro t ks h;cases h
 bld:List Nat:=[]
def jO(cx:Cx)(w:World):Prop:= ∀g cells,cx.gl g=some cells->g<w.heap.size/\cells.all D.gP=true/\ ∀(j:Nat) d,cells[j]? =some d-> ∃u,w.cell? ⟨g,j,none⟩=some u/\Rep w (λ_=>False) d u
structure we(F:Nat->Prop)(w0 w:World):Prop where
 os:w.os=w0.os
 tape:w.tape=w0.tape
 output:w.output=w0.output
 size:w0.heap.size<=w.heap.size
 block:∀b,¬F b->w.heap[b]? =w0.heap[b]?
def kX:AV->Value->Prop
 | .d (.int k n),v=>v= .int k n
 | .d (.bool b),v=>v= .bool b
 | .d (.str s),v=>v= .string ⟨s.toArray⟩
 | .nil _,v=>v= .slice none 0 0
 | .d .jg,v=>v= .map none
 | .undef,_=>True
 |_,_=>False
def bC(cx:Cx):Prop:= ∀t G,cx.ty t=some G-> ∃D H z,cx.P.info? t=some D/\cx.P.underlying t=some H/\kindOf H=G.kind/\D.size=G.size/\D.bytes=G.bytes /\
 D.zero=some z/\z.cells.size=G.zero.length/\G.size=G.zero.length/\(∀(j:Nat) c,G.zero[j]? =some c->kX c (z.cells.getD j Go.undef))/\(match G.kind.isAgg with|true=>z.oneCell' =false/\ ∃vs,z= .agg vs|false=>z.oneCell' =true)
structure Env where
 F:Nat->Prop
 O:Nat->Prop
 w0:World
 nt:Nat
 fix:Nat->Option Nat:=λ_=>none
 dfr:List Deferred:=[]
structure bS(cx:Cx)(E:Env)(st:St)(σ:Nat->Value)(a:Act)(w:World):Prop where
 frame:we E.F E.w0 w
 new:∀b,E.w0.heap.size<=b->E.F b
 apart:∀b,E.O b-> ¬E.F b
 defers:a.defers=E.dfr
 nt:a.tmps.size=E.nt
 aY:∀t,aC w E.O (live st.heap) σ (st.get t) (a.tmps.getD t Go.undef)
 holds:Holds w E.F E.O st.heap σ
 gR:jO cx E.w0
 ee:∀g cells,cx.gl g=some cells-> ¬E.F g/\ ¬E.O g
 fix:∀q0 B,E.fix q0=some B->(E.nt<=100000/\100000<=q0)/\(live st.heap q0->σ q0= .pointer (some ⟨B,0,none⟩))
def Sim(cx:Cx)(E:Env)(st:St)(a:Act)(w:World):Prop:= ∃σ,bS cx E st σ a w
def bo(k:Nat)(x:α)(t:List<|Nat×α):find ((k,x)::t) k=some x:=by
 simp[find]
def bp{k i:Nat}(x:α)(t:List<|Nat×α)(h:k≠i):find ((k,x)::t) i=find t i:=by
 have:Nat.beq k i=false:=by rw[<- Bool.not_eq_true];exact λe=>h<|bg e
 simp[find,this]
def vJ(l m:List<|Nat×α)(i:Nat):find (l++m) i=(find l i).or (find m i):=by
 induction l with
 |nil=>simp[find]
 |cons p t j =>
  obtain⟨k,x⟩:=p;by_cases h:k=i
  .subst h;rw[List.cons_append,bo,bo];rfl
  .rw[List.cons_append,bp _ _ h,bp _ _ h,j]
def bW(l:List<|Nat×AV)(d:Option Nat)(v:AV):List<|Nat×AV:=match d with|some d=>(d,v)::l|none=>l
def St.put(st:St)(d:Option Nat)(v:AV)(bs:List<|Nat×Blk):St:=⟨bW st.aY d v,bs++st.heap⟩
def St.gY(st:St)(d:Option Nat)(v:AV)(bs:List<|Nat×Blk)(t:Nat):(st.put d v bs).get t=if d=some t then v else st.get t:=by
 unfold St.put St.get bW;cases d with
 |none=>simp
 |some d =>
  by_cases h:d=t
  .subst h;simp[bo]
  .simp[bp _ _ h,h]
structure St.le(st st' :St):Prop where
 slot:∀t,st.get t= .undef\/st'.get t=st.get t
 heap:∀s b,find st.heap s=some b->find st'.heap s=some b
def St.le.refl(st:St):st.le st:=⟨λ_=> .inr rfl,λ_ _ h=>h⟩
def pr:Value->AV
 | .int k n=> .d<|.int k n
 | .bool b=> .d<|.bool b
 | .string s=> .d<|.str s.data.toList
 | .slice none 0 0=> .nil 0
 |_=> .undef
def ofConst:Value->AV
 | .agg cs=> .agg<|cs.toList.map pr
 |v=>pr v
def zL(w:World)(O L:Nat->Prop)(σ:Nat->Value)(v:Value):aC w O L σ (pr v) v:=by
 unfold pr;split
 .exact .d _ _<|.int _ _
 .exact .d _ _<|.bool _
 .exact .d _ _<|.str _ _ rfl
 .exact .nil _
 .exact .undef _
def NT(w:World)(O L:Nat->Prop)(σ:Nat->Value)(v:Value):aC w O L σ (ofConst v) v:=by
 unfold ofConst;split
 .rename_i cs;refine .agg _ _ (by simp) λj c D=>?_
  rw[bc]at D;cases G:cs.toList[j]? with
  |none=>rw[G]at D;cases D
  |some u =>
   rw[G]at D;cases D;have:cs.getD j Go.undef=u:=by rw[bE]at G;simp[G]
   rw[this];exact zL w O L σ u
 .exact zL w O L σ v
def St.ev(cx:Cx)(st:St):Operand->AV
 | .tmp t=>st.get t
 | .const v=>ofConst v
 | .global g=>match cx.gl g with|some cells=> .d<|.ptr cells|none=> .undef
 | .func f=> .d<|.fn f [] []
section
variable {cx:Cx} {E:Env} {st st' :St} {σ:Nat->Value} {a:Act} {w:World}
def bS.ev(h:bS cx E st' σ a w)(I:st.le st')(x:Operand):aC w E.O (live st'.heap) σ (st.ev cx x)<|a.eval x:=by
 cases x with
 |tmp t =>
  show aC _ _ _ _ (st.get t) _
  rcases I.slot t with e|e
  .rw[e];exact .undef _
  .rw[<- e];exact h.aY t
 |const v=>exact NT _ _ _ _ _
 |global g =>
  show aC _ _ _ _ (match cx.gl g with|some cells=>AV.d<|.ptr cells|none=> .undef) _
  cases T:cx.gl g with
  |none=>exact .undef _
  |some cells =>
   obtain⟨h1,J,K⟩:=h.gR g cells T;obtain⟨N,H⟩:=h.ee g cells T;have U:¬Own E.O (live st'.heap) σ g:=by
    rintro(X|⟨s,Z,e⟩)
    .exact H X
    .obtain⟨b,V⟩:=aH.1 Z;exact N ((h.holds.blk s b V).home.1 g e).1
   refine .d _ _ (.ptr cells g 0 (λj=>(E.w0.cell? ⟨g,j,none⟩).getD Go.undef) U (Nat.lt_of_lt_of_le h1 h.frame.size) (λd W=>?_) (λj d D=>?_) λj d D=>?_)
   .have:=aG.1 J d W;cases d<;>first|rfl|cases this
   .obtain⟨u,G,_⟩:=K j d D;rw[G,Nat.zero_add,World.cell?_of_block (a:=⟨g,j,none⟩)<|h.frame.block g N];exact G
   .obtain⟨u,G,Y⟩:=K j d D;rw[G];exact Y.gP<|aG.1 J d<|aw D
 |func f=>exact .d _ _<|.fn f [] [] #[] #[] rfl rfl (λj d D=>by simp at D) (λj d D=>by simp at D) (λj m D=>by simp at D)
def jV{a:Act}{d:Option Nat}{u:Value}{t:Nat}(j:∀e,d=some e->e<a.tmps.size):(a.put d u).tmps.getD t Go.undef=if d=some t then u else a.tmps.getD t Go.undef:=by
 cases d with
 |none=>simp[Act.put]
 |some d =>
  have:=j d rfl;simp only[Act.put,bU,Option.some.injEq];by_cases h:d=t
  .subst h;simp[this]
  .rw[Array.getElem?_setIfInBounds_ne h,if_neg h]
def bS.put(h:bS cx E st σ a w){d:Option Nat}{v:AV}{u:Value}(j:∀e,d=some e->e<E.nt)(D:aC w E.O (live st.heap) σ v u) :
 bS cx E (st.put d v []) σ (a.put d u) w:=by
 refine⟨h.frame,h.new,h.apart,?_,?_,λt=>?_,h.holds,h.gR,h.ee,h.fix⟩
 .cases d<;>exact h.defers
 .cases d<;>simp[Act.put,h.nt]
 .rw[St.gY,jV<|by rw[h.nt];exact j];by_cases e:d=some t
  .rw[if_pos e,if_pos e];exact D
  .rw[if_neg e,if_neg e];exact h.aY t
def cP{bs h:List<|Nat×Blk}{s:Nat}:live (bs++h) s ↔ live bs s\/live h s:=by
 unfold live;rw[vJ];cases find bs s<;>simp
def Holds.home{F O:Nat->Prop}{hp:List<|Nat×Blk}(h:Holds w F O hp σ){s b:Nat}(D:live hp s)(j:NQ.home (σ s)=some b):F b/\b<w.heap.size:=by
 obtain⟨x,G⟩:=aH.1 D;exact(h.blk s x G).home.1 b j
def bS.grow(h:bS cx E st σ a w){w' :World}{d:Option Nat}{v:AV}{u:Value}{bs:List<|Nat×Blk}{σ' :Nat->Value}(hd:∀e,d=some e->e<E.nt)
 (T:∀s,live st.heap s->σ' s=σ s) (j:Below w.heap.size w w')
 (hf:∀U B,E.fix U=some B-> ¬live bs U) (I:∀s b,live bs s->NQ.home (σ' s)=some b->w.heap.size<=b) (X:∀s K b,live bs s->live bs K ->NQ.home (σ' s)=some b->NQ.home (σ' K)=some b->s=K)
 (W:∀s b,find bs s=some b->du w' E.F E.O (live<|bs++st.heap) σ' s b) (hr:aC w' E.O (live<|bs++st.heap) σ' v u):bS cx E (st.put d v bs) σ' (a.put d u) w' :=by
 have hi:E.w0.heap.size<=w.heap.size:=h.frame.size;have k1:bx w w' (Own E.O (live st.heap) σ)<|Own E.O (live<|bs++st.heap) σ':=by
  refine⟨j.size,λb _ H=>j.block b H,λb hn H ho=>?_⟩;rcases ho with ho|⟨s,G,e⟩
  .exact hn<|.inl ho
  .rcases cP.1 G with G|G
   .have:=I s b G e;omega
   .rw[T s G]at e;exact hn<|.inr ⟨s,G,e⟩
 have s1:∀s,live st.heap s->live (bs++st.heap) s/\σ' s=σ s:=λs G=>⟨cP.2<|.inr G,T s G⟩
 refine⟨⟨j.os.trans h.frame.os,j.tape.trans h.frame.tape,j.output.trans h.frame.output,Nat.le_trans h.frame.size j.size,λb H=>?_⟩,h.new,h.apart,?_,?_,λt=>?_,⟨λs b G=>?_,λs K b G hh H D =>?_⟩,h.gR,h.ee,λU B Z=>⟨(h.fix U B Z).1,λV=>?_⟩⟩
 .have N:b<w.heap.size:=by
   rcases Nat.lt_or_ge b w.heap.size with N|hge
   .exact N
   .exact absurd (h.new b<|Nat.le_trans hi hge) H
  exact(j.block b N).trans<|h.frame.block b H
 .cases d<;>exact h.defers
 .cases d<;>simp[Act.put,h.nt]
 .rw[St.gY,jV<|by rw[h.nt];exact hd];by_cases e:d=some t
  .rw[if_pos e,if_pos e];exact hr
  .rw[if_neg e,if_neg e];exact(h.aY t).mono k1 s1
 .have J:find (bs++st.heap) s=some b:=G;rw[vJ]at J;cases hx:find bs s with
  |some x=>rw[hx]at J;cases J;exact W s b hx
  |none =>
   rw[hx]at J;have Y:find st.heap s=some b:=by simpa using J
   have V:live st.heap s:=aH.2 ⟨b,Y⟩;exact(h.holds.blk s b Y).mono k1 s1 V λg hg=>j.block g (h.holds.home V hg).2
 .rcases cP.1 G with l1|l1<;>rcases cP.1 hh with l2|l2
  .exact X s K b l1 l2 H D
  .have:=I s b l1 H;rw[T K l2]at D;have:=(h.holds.home l2 D).2;omega
  .have:=I K b l2 D;rw[T s l1]at H;have:=(h.holds.home l1 H).2;omega
  .rw[T s l1]at H;rw[T K l2]at D;exact h.holds.inj s K b l1 l2 H D
 .have V:live (bs++st.heap) U:=V;rcases cP.1 V with l|l
  .exact absurd l<|hf U B Z
  .rw[T _ l];exact(h.fix U B Z).2 l
def bS.acm(h:bS cx E st σ a w){s g:Nat}{w' :World}{d:Option Nat}{v:AV}{u:Value}(hd:∀e,d=some e->e<E.nt)(V:live st.heap s)(U:NQ.home (σ s)=some g)
 (h1:w'.os=w.os) (h2:w'.tape=w.tape) (h3:w'.output=w.output) (W:w.heap.size<=w'.heap.size) (N:∀k,k<w.heap.size->k≠g->w'.heap[k]? =w.heap[k]?)
 (hb:∀b,find st.heap s=some b->du w' E.F E.O (live st.heap) σ s b) (hr:aC w' E.O (live st.heap) σ v u):bS cx E (st.put d v []) σ (a.put d u) w' :=by
 have I:Own E.O (live st.heap) σ g:= .inr ⟨s,V,U⟩;have X:bx w w' (Own E.O (live st.heap) σ)<|Own E.O (live st.heap) σ:=⟨W,λx D j=>N x j λe=>D<|e ▸ I,λ_ D _=>D⟩
 have Y:∀s,live st.heap s->live st.heap s/\σ s=σ s:=λs h=>⟨h,rfl⟩
 refine⟨⟨h1.trans h.frame.os,h2.trans h.frame.tape,h3.trans h.frame.output,Nat.le_trans h.frame.size W,λx D=>?_⟩,h.new,h.apart,?_,?_,λt=>?_,⟨λJ K T =>?_,h.holds.inj⟩,h.gR,h.ee,h.fix⟩
 .have j:x<w.heap.size:=by
   rcases Nat.lt_or_ge x w.heap.size with j|hge
   .exact j
   .exact absurd (h.new x<|Nat.le_trans h.frame.size hge) D
  rw[N x j λe=>D<|e ▸ (h.holds.home V U).1];exact h.frame.block x D
 .cases d<;>exact h.defers
 .cases d<;>simp[Act.put,h.nt]
 .rw[St.gY,jV<|by rw[h.nt];exact hd];by_cases e:d=some t
  .rw[if_pos e,if_pos e];exact hr
  .rw[if_neg e,if_neg e];exact(h.aY t).mono X Y
 .have G:find st.heap J =some K :=T;by_cases e:J =s
  .subst e;exact hb K G
  .have H :live st.heap J :=aH.2 ⟨K,G⟩;exact(h.holds.blk J K G).mono X Y H λx D=>N x (h.holds.home H D).2 λZ =>e<|h.holds.inj J s g H V (Z ▸ D) U
end

