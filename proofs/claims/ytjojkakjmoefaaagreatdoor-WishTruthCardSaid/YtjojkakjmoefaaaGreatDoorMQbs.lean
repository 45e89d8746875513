/-
  Merged texts.
-/
import Derived.Test.YtjojkakjmoefaaaGreatDoorMQt
import Derived.Lib.AppendStr
import Derived.Lib.ConvBytes
set_option linter.all false

namespace NQ
open Go Go.RowKit
def fm(s:List UInt8):List<|List D:=s.map λc=>[.int .u8 (c.toNat:Int)]
inductive XOp where
 |app (t u:TypeId) (s x:Operand)
 |conv (src dst:TypeId) (x:Operand)
 |arr (t:TypeId) (x:Operand)
 |box (x:Operand)
 |tail (t:TypeId) (x lo:Operand)
 |cut (t:TypeId) (x hi:Operand)
 |clr (t:TypeId) (x:Operand)
def abA:AV->Bool
 | .undef=>true
 |c=>c.one
def aax{c:AV}(h:abA c=true):c.one=true\/c= .undef:=by
 cases c<;>first|exact .inl h|exact .inr rfl
def xOf(cx:Cx)(o:Oper):Option XOp :=
 match o.op with
 | .call c=>(match c.callee,c.args.toList,c.argTypes.toList with
  | .builtin .append,[s,x],[t,u]=>(match isStr cx u with|true=>some<|.app t u s x|false=>none)
  | .builtin .clear,[x],[t]=>some<|.clr t x
  |_,_,_=>none)
 | .convert j dst x=>(match isStr cx j,cD cx dst with|true,some _=>some<|.conv j dst x|_,_=>none)
 | .slice t x none none none=>(match arrayElem cx t with|some _=>some<|.arr t x|none=>none)
 | .slice t x (some lo) none none=>(match inL 777001 cx.bld with|true=>some<|.tail t x lo|false=>none)
 | .slice t x none (some hi) none=>(match inL 777001 cx.bld with|true=>some<|.cut t x hi|false=>none)
 | .box _ x=>some<|.box x
 |_=>none
def KC(j:TI):Bool:=match j with
 |⟨1,1,.int .u8,[.d<|.int .u8 0]⟩=>true
 |_=>false
def xK(cx:Cx)(st:St)(d:Option Nat)(x:XOp)(k:AV->List (Nat×AV)->List (Nat×Blk)->Prop):Prop :=
 match x with
 | .app t u s x=>(match cD cx t,st.ev cx x with
  |some (e,j),.d (.str b)=>(match KC j with
   |true=>(match st.ev cx s with
    | .own s=>(match find st.heap s with
     |some (.row D hS rows _)=>(match Nat.beq e D,Nat.beq 1 hS with
      |true,true=>rows.length+b.length<=140737488355328/\k (.own s) (jo s st.aY) ((s,.row D hS<|rows++fm b)::fG s st.heap)
      |_,_=>False)
     |_=>False)
    | .nil _=>(match d with
     |some d=>(match find st.heap d with
      |none=>b.length<=140737488355328/\k (.own d) st.aY ((d,.row e 1<|fm b)::st.heap)
      |some _=>False)
     |none=>False)
    |_=>False)
   |false=>False)
  |_,_=>False)
 | .conv J dst x=>(match cD cx dst,st.ev cx x with
  |some (e,j),.d (.str b)=>(match KC j with
   |true=>k (.d<|.slice 1<|fm b) st.aY st.heap
   |false=>False)
  |_,_=>False)
 | .arr t x=>(match arrayElem cx t,st.ev cx x with
  |some (n,j),.d (.ptr cells)=>(match Nat.beq j.size 1,Nat.beq n cells.length with
   |true,true=>k (.d<|.slice 1 (cells.map λc=>[c])) st.aY st.heap
   |_,_=>False)
  |_,_=>False)
 | .box x=>(match d,cellsOf (st.ev cx x)with
  |some d,some cs=>(match AP cs with
   |some cs=>(match cs.all abA,find st.heap d with
    |true,none=>k (.ptr d 0) st.aY<|(d,.box cs)::st.heap
    |_,_=>False)
   |none=>False)
  |_,_=>False)
 | .tail t x I=>(match cD cx t,st.ev cx x,st.ev cx I with
  |some (_,j),.own s,.d (.int _ l)=>(match find st.heap s with
   |some (.row _ sz rows _)=>(match Nat.beq sz j.size with
    |true=>0<=l/\l.toNat<rows.length/\k (.tl s sz l.toNat) st.aY st.heap
    |false=>False)
   |_=>False)
  |_,_,_=>False)
 | .cut t x H=>(match cD cx t,st.ev cx x,st.ev cx H with
  |some (_,j),.own s,.d (.int _ l)=>(match find st.heap s with
   |some (.row e sz rows _)=>(match Nat.beq sz j.size with
    |true=>0<=l/\l.toNat<rows.length/\k (.own s) (jo s st.aY) ((s,.row e sz<|rows.take l.toNat)::fG s st.heap)
    |false=>False)
   |_=>False)
  |_,_,_=>False)
 | .clr t x=>(match cD cx t,st.ev cx x with
  |some (e,j),.tl s G i=>(match find st.heap s,cB fw j.zero with
   |some (.row D sz rows fl),some z=>(match Nat.beq e D,Nat.beq sz j.size,Nat.beq G sz with
    |true,true,true=>i<rows.length/\k (.tuple []) st.aY ((s,.row D sz (rows.take i++List.replicate (rows.length-i) z) fl)::st.heap)
    |_,_,_=>False)
   |_,_=>False)
  |_,_=>False)
def Pl{j:TI}(h:KC j=true):j=⟨1,1,.int .u8,[.d<|.int .u8 0]⟩:=by
 unfold KC at h;split at h
 .rfl
 .cases h
def size_data(b:ByteArray):b.size=b.data.toList.length:=by rw[Array.length_toList];rfl
def LA{b:ByteArray}{j:Nat}{r:List D}{q:Nat}{d:D}(G:(fm b.data.toList)[j]? =some r)(I:r[q]? =some d):∃z,(Lib.strCells b)[j*1+q]? =some z/\ ∀{w:World} {O:Nat->Prop},Rep w O d z:=by
 unfold fm at G;rw[bc]at G;cases H:b.data.toList[j]? with
 |none=>rw[H]at G;cases G
 |some c =>
  rw[H]at G;cases G;rcases q with _|q
  .cases I;refine⟨.int .u8 c.toNat,?_,.int _ _⟩;rw[Nat.mul_one,Nat.add_zero,Lib.strCells,bc,H];rfl
  .simp at I
section
variable {cx:Cx} {st:St} {σ:Nat->Value} {a:Act} {w:World} {E:Env}
def yl(b:List UInt8):∀r∈fm b,r.length=1/\ ∀d∈r,d.one=true:=λr D=>by
 obtain⟨c,_,rfl⟩:=List.mem_map.1 D;exact⟨rfl,λd j=>by rw[List.mem_singleton.1 j];rfl⟩
def vZ(b:List UInt8):(fm b).length=b.length:=by simp[fm]
def CX(hT:bC cx){t e u ty:TypeId}{ei:TI}(kE:cD cx t=some (e,ei))(hE:KC ei=true)(hu:isStr cx u=true){O:Nat->Prop}
 {v:Value} {n:Nat} {xs:List Value} (G:w.ownsRow 0 e 1 v n xs) (b:ByteArray) (kt:n+b.size<=140737488355328) :
 ∃W w' I,(Builtin.append_ #[t,u] ty #[v,.string b]).run cx.P w= .ok W w' /\w'.ownsRow 0 e 1 W (n+(fm b.data.toList).length) (xs++I)/\w.grownBy w' v.ownBlock/\(∀g,home W =some g->home v=some g\/w.heap.size<=g) /\
  (∀r∈fm b.data.toList,r.length=1/\ ∀d∈r,d.one=true)/\ ∀i r j d,(fm b.data.toList)[i]? =some r->r[j]? =some d-> ∃z,I[i*1+j]? =some z/\Rep w O d z:=by
 obtain rfl:=Pl hE;obtain⟨ti,ht,hN,hM⟩:=cE kE;obtain⟨_,_,_,_,U,t3,_⟩:=hT _ _ ht;rw[hN]at t3;obtain rfl:=cd t3;obtain⟨tu,ki,kp⟩:=ln hu;obtain⟨_,_,_,_,V,u3,_⟩:=hT _ _ ki;rw[kp]at u3;obtain rfl:=ga u3;obtain⟨D,desc,Y,N,i2,i3,K,T,i6,i7,i8,i9,i10⟩:=hT _ _ hM;have K:D.size=1:=K;have T:D.bytes=1:=T;have kL:Y= .int .u8 0:=by
  have h9:=i9 0 _ rfl;have kr:Y.oneCell' =true:=i10;have h7:Y.cells.size=1:=i7;cases Y<;>first|(cases kr;done)|(simp[Value.cells,kX]at h9;first|done|exact congrArg _ h9|(obtain⟨rfl,rfl⟩:=h9;rfl))
 subst kL;obtain⟨W,w',H,r2,r3,_⟩:=Lib.run_append_own_string (P:=cx.P) w 0 t u ty e D U V N i6 K T v n xs G b (by unfold maxLen;omega) kt<|Nat.zero_le _;refine⟨W,w',_,H,by rw[vZ, <- size_data];exact r2,r3,λg X=>?_,yl _,λi r j d hi hj=>?_⟩
 .rcases G.2 with ⟨rfl,rfl⟩|⟨Z,cap,cur,rfl,_,kv,kR,_,kQ,_⟩
  .by_cases h0:b.size=0
   .have kK:xs=[]:=List.eq_nil_of_length_eq_zero (by have:=G.1;simpa using this);subst kK;have hn:Lib.strCells b=[]:=List.eq_nil_of_length_eq_zero (by rw[Lib.strCells_length];exact h0);have hf:=Lib.run_firstCells_string (P:=cx.P) w 1 b;rw[h0]at hf;have:(Builtin.append_ #[t,u] ty #[.slice none 0 0,.string b]).run cx.P w= .ok (.slice none 0 0) w:=by
     simp[Builtin.append_,run_underlying U,run_underlying V,Go.sizeOf,typeInfo,N,K,Builtin.lenOf,h0,hf]
    rw[this]at H;cases H;cases X
   .have:=run_append_nil_string (P:=cx.P) w t u ty e D (.int .u8 0) U V N i6 b (by omega) (by omega) (by rw[T];omega);rw[this]at H;cases H;cases X;exact .inr<|Nat.le_refl _
  .by_cases J:n+b.size<=cap
   .have:=Lib.run_append_room_string (P:=cx.P) w t u ty e D U V N K Z n cap cur kv b J (by omega);rw[this]at H;cases H;exact .inl X
   .have:=Lib.run_append_grow_string (P:=cx.P) w t u ty e D (.int .u8 0) U V N i6 ⟨Z,0,none⟩ n cap xs (by rw[K];exact G.1) (G.cells (g:=Z) rfl) b (by omega) (by omega) (by rw[T];exact growslice_fits (by omega)<|by omega);rw[this]at H;cases H;cases X;exact .inr<|Nat.le_refl _
 .obtain⟨z,hz,hd⟩:=LA hi hj;exact⟨z,hz,hd⟩
def acC(hT:bC cx){o:Oper}{x0:XOp}(D:xOf cx o=some x0){k:AV->List (Nat×AV)->List (Nat×Blk)->Prop}(h:xK cx st o.dst x0 k):∃v sl hp,lW cx o st ⟨bW sl o.dst v,hp⟩/\k v sl hp:=by
 unfold xOf at D;split at D
 .rename_i c V;split at D
  .rename_i s x t u hJ hK hL;split at D
   .rename_i hu;cases D;have hU :c={callee:= .builtin .append,args:= #[s,x],argTypes:= #[t,u]}:=by
     obtain⟨cc,ca,ct⟩:=c;simp only at hJ hK hL;subst hJ;have X:ca= #[s,x]:=by rw[<- Array.toList_inj];exact hK
     have e2:ct= #[t,u]:=by rw[<- Array.toList_inj];exact hL
     rw[X,e2]
    rw[hU]at V;have I:∀(a:Act) (w:World) {z:Value} {w' :World},(Builtin.append_ #[t,u] o.type #[a.eval s,a.eval x]).run cx.P w= .ok z w' ->(execOp a.eval o).run cx.P w= .ok (.value z) w' :=λa w z w' hh=>by
     simp[execOp,V,resolve,invoke,builtin,hh]
    simp only[xK]at h;split at h
    case h_2=>exact h.elim
    rename_i e ei b N K;split at h
    case h_2=>exact h.elim
    rename_i hE;have kh:(0:Nat)<1:=Nat.one_pos;split at h
    .rename_i U kg;split at h
     .rename_i e' hS rows kP hf;split at h
      .rename_i c1 c2;obtain rfl:e=e' :=bg c1;obtain rfl:1=hS :=bg c2;obtain⟨b1,hk⟩:=h;refine⟨_,_,_,λE a w Q hd ⟨σ,J⟩=>?_,hk⟩;have hC:=J.ev (St.le.refl st) s;rw[kg]at hC;have H:=J.ev (St.le.refl st) x;rw[K]at H;obtain⟨T,hI,rfl⟩:=H.str;obtain⟨xs,o1,o2,o3,o4,o5⟩:=J.holds.blk U _ hf;have G:live st.heap U:=aH.2 ⟨_,hf⟩;obtain⟨v',w',news,r1,r2,r3,r4,r5,r6⟩:=CX (O:=Own E.O (live st.heap) σ) (ty:=o.type) hT N hE hu o1 T (by rw[size_data];exact b1);have hD :a.eval s=σ U:=by generalize a.eval s=u at hC;cases hC;rfl
       rw[<- hD, <- hI]at r1;simp only[Oper.wp,I a w r1,Oper.upon];refine J.LI (τ:=v') hd G (λaa e=>by rcases o1.2 with ⟨e',_⟩|⟨_,_,_,e',_⟩<;>(rw[e']at e;cases e)) r3.os r3.tape r3.output r3.size (λq hq kA=>r3.block q hq λe=>kA ?_) r4 (λσ' X ha=>?_) λσ' X=>?_
       .have:(σ U).ownBlock=some q:=e.symm;generalize σ U=z at this ⊢;cases z<;>simp[Value.ownBlock]at this;rename_i aa _ _;cases aa<;>simp[Value.ownBlock]at this;simp[home,this]
       .refine⟨xs++news,by rw[X,List.length_append];exact r2,λb hb=>?_,⟨o3.1,λe=>by cases e⟩,λr hr=>?_,oR (by rw[o1.1]) ha o5 r6⟩
        .rw[X]at hb;rcases r4 b hb with hb|hb
         .exact o2 b hb
         .exact J.new b<|Nat.le_trans J.frame.size hb
        .rcases List.mem_append.1 hr with hr|hr
         .exact o4 r hr
         .exact r5 r hr
       .have:=aC.own (w:=w') (O:=E.O) (σ:=σ') U G;rw[X]at this;exact this
      .exact h.elim
     .exact h.elim
    .rename_i z0 kg;split at h
     .rename_i d kn;split at h
      .rename_i hf;obtain⟨b1,hk⟩:=h;refine⟨_,_,_,λE a w Q hd ⟨σ,J⟩=>?_,hk⟩;have hC:=J.ev (St.le.refl st) s;rw[kg]at hC;have H:=J.ev (St.le.refl st) x;rw[K]at H;obtain⟨T,hI,rfl⟩:=H.str;have hD :a.eval s= .slice none 0 0:=by generalize a.eval s=u at hC;cases hC;rfl
       obtain⟨v',w',news,r1,r2,r3,r4,r5,r6⟩:=CX (O:=Own E.O (live st.heap) σ) (ty:=o.type) hT N hE hu (World.ownsRow_nil w 0 e 1) T (by rw[size_data];simpa using b1);rw[<- hD, <- hI]at r1;simp only[Oper.wp,I a w r1,Oper.upon];have hn:¬live st.heap d:=by unfold live;rw[hf];simp
       let σ' :Nat->Value:=λx=>if x=d then v' else σ x
       have X:σ' d=v' :=if_pos rfl;have e2:∀x,live st.heap x->σ' x=σ x:=λx G=>if_neg λ(e:x=d)=>hn<|e ▸ G
       have Y:Below w.heap.size w w' :=sJ r3;have hv:∀g,home v' =some g->w.heap.size<=g:=λg hg=>by
        rcases r4 g hg with h|h
        .cases h
        .exact h
       have ha:bx w w' (Own E.O (live st.heap) σ)<|Own E.O (live<|[(d,Blk.row e 1<|fm T.data.toList)]++st.heap) σ':=by
        refine⟨Y.size,λx _ hx=>Y.block x hx,λx ko hx V=>?_⟩;rcases V with V|⟨y,G,e⟩
        .exact ko<|.inl V
        .rcases cP.1 G with G|G
         .rw[cN.1 G,X]at e;have:=hv x e;omega
         .rw[e2 y G]at e;exact ko<|.inr ⟨y,G,e⟩
       have ky:live ([(d,Blk.row e 1<|fm T.data.toList)]++st.heap) d:=cP.2<|.inl<|cN.2 rfl;have ku:∀q0 B,E.fix q0=some B-> ¬live [(d,Blk.row e 1<|fm T.data.toList)] q0:=λq0 B hB G=>by
        have h1:=(J.fix q0 B hB).1;have h2:d<E.nt:=hd d (by assumption);have h3:q0=d:=cN.1 G;omega
       refine⟨σ',J.grow (bs:=[(d,Blk.row e 1<|fm T.data.toList)]) (v:= .own d) hd e2 Y ku (λx g G e=>?_) (λx y g G kx _ _=>(cN.1 G).trans (cN.1 kx).symm) (λx b hb=>?_) ?_⟩
       .rw[cN.1 G,X]at e;exact hv g e
       .have G:=cN.1<|aH.2 ⟨b,hb⟩;subst G;rw[bo]at hb;cases hb;refine⟨news,by rw[X];simpa using r2,λb hb=>?_,⟨kh,λe=>by cases e⟩,r5,λi r j d W hj=>?_⟩
        .rw[X]at hb;exact J.new b<|Nat.le_trans J.frame.size<|hv b hb
        .obtain⟨u,hu,hd⟩:=r6 i r j d W hj;exact⟨u,hu,hd.mono ha⟩
       .have:=aC.own (w:=w') (O:=E.O) (σ:=σ') d ky;rw[X]at this;exact this
      .exact h.elim
     .exact h.elim
    .exact h.elim
   .cases D
  .rename_i x t hJ hK hL;cases D;have hU :c={callee:= .builtin .clear,args:= #[x],argTypes:= #[t]}:=by
    obtain⟨cc,ca,ct⟩:=c;simp only at hJ hK hL;subst hJ;have X:ca= #[x]:=by rw[<- Array.toList_inj];exact hK
    have e2:ct= #[t]:=by rw[<- Array.toList_inj];exact hL
    rw[X,e2]
   rw[hU]at V;simp only[xK]at h;split at h
   case h_2=>exact h.elim
   rename_i e ei s kq i N K;split at h
   case h_2=>exact h.elim
   rename_i e' sz rows fl z hf hz;split at h
   case h_2=>exact h.elim
   rename_i he Z kD;obtain rfl:e=e' :=bg he;obtain rfl:kq=sz:=bg kD;obtain rfl:kq=ei.size:=bg Z;exact⟨_,_,_,Zx hT V N hz K hf h.1,h.2⟩
  .cases D
 .rename_i src dst x V;split at D
  .rename_i kf kG;cases D;simp only[xK]at h;split at h
   case h_2=>exact h.elim
   rename_i e ei b N K;split at h
   case h_2=>exact h.elim
   rename_i hE;obtain rfl:=Pl hE;refine⟨_,_,_,λE a w Q hd ⟨σ,J⟩=>?_,h⟩;obtain⟨ti,ht,hN,hM⟩:=cE N;obtain⟨_,_,_,_,t2,t3,_⟩:=hT _ _ ht;rw[hN]at t3;obtain rfl:=cd t3;obtain⟨tu,ki,kp⟩:=ln kf;obtain⟨_,_,_,_,u2,u3,_⟩:=hT _ _ ki;obtain⟨_,_,_,_,e2,e3,_⟩:=hT _ _ hM;have e3:=ql e3;subst e3;have H:=J.ev (St.le.refl st) x;rw[K]at H;obtain⟨T,hI,rfl⟩:=H.str;have kc:=Lib.run_convert_string_bytes (P:=cx.P) w src dst e T u2 t2 e2;have I:(execOp a.eval o).run cx.P w= .ok (.value<|.slice (some ⟨w.heap.size,0,none⟩) T.size<|grownCap w T.size 0 e) (Lib.bytesWorld w e T):=by
    simp[execOp,V,hI,kc]
   simp only[Oper.wp,I,Oper.upon];have Y:Below w.heap.size w<|Lib.bytesWorld w e T:=⟨rfl,rfl,rfl,by rw[Lib.bytesWorld_size];omega,λk hk=>Lib.bytesWorld_at_old w e T k hk⟩
   refine⟨σ,J.grow (bs:=[]) (v:= .d<|.slice 1<|fm T.data.toList) hd (λs G=>rfl) Y (λq0 B hB G=>by simp[live,find]at G) (λs b G=>by simp[live,find]at G) (λs s' b G=>by simp[live,find]at G) (λs b hb=>by simp[find]at hb) ?_⟩;have kB:¬Own E.O (live<|[]++st.heap) σ w.heap.size:=λhO=>by
    have:=J.sW _ hO;omega
   refine .d _ _ (.slice 1 _ w.heap.size 0 _ _ (λi j=> .int .u8 (T.data.toList.getD i 0).toNat) (by rw[vZ,size_data]) kB (by rw[Lib.bytesWorld_size];omega) (grownCap_ge w T.size 0 e) (yl _) (λi r j d W hj=>?_) λi r j d W hj=>?_)
   .have hs:=(aA.1 W).1;rw[vZ]at hs;have hX:j=0:=by
     have:=(yl _ r<|aw W).1;have h2:=(aA.1 hj).1;omega
    subst hX;have:=Lib.bytesWorld_cell w e T i (by rw[size_data];exact hs);rw[<- this]
    congr 2
    omega
   .unfold fm at W;rw[bc]at W;cases hc:T.data.toList[i]? with
    |none=>rw[hc]at W;cases W
    |some c =>
     rw[hc]at W;cases W;rcases j with _|j
     .cases hj;have:T.data.toList.getD i 0=c:=by rw[List.getD_eq_getElem?_getD,hc];rfl
      rw[this];exact .int _ _
     .simp at hj
  .cases D
 .rename_i t x V;split at D
  .rename_i kl;cases D;simp only[xK]at h;split at h
   case h_2=>exact h.elim
   rename_i n ei cells kl K;split at h
   case h_2=>exact h.elim
   rename_i Z hZ;have Z:=bg Z;have hZ:=bg hZ;subst hZ;refine⟨_,_,_,λE a w Q hd ⟨σ,J⟩=>?_,h⟩;obtain⟨ti,e,ht,hN,hM⟩:=yH kl;obtain⟨_,_,_,_,t2,t3,_⟩:=hT _ _ ht;rw[hN]at t3;obtain rfl:=zC t3;obtain⟨_,r2⟩:=dU (w:=w) hT hM;have H:=J.ev (St.le.refl st) x;rw[K]at H;generalize kI:a.eval x=ux at H;cases H with|d _ _ H=>cases H with|ptr _ B off us hO hB hA h1 h2 =>
    have I:(execOp a.eval o).run cx.P w= .ok (.value<|.slice (some ⟨B,off,none⟩) cells.length cells.length) w:=by
     simp only[execOp,V,Option.map_none,kI];simp only[Sem.run_bind,Sem.run_pure,Instr.sliceAt,run_underlying t2,Result.andThen_ok,Instr.sureAddr,Instr.sliceBounds,r2,Nat.zero_mul,Nat.sub_zero,dx,Nat.add_zero,ite_self]
    simp only[Oper.wp,I,Oper.upon];refine⟨σ,J.put hd<|.d _ _ ?_⟩;cases hc:cells with
    |nil=>exact .empty _ _ _
    |cons c0 t0 =>
     rw[<- hc];refine .slice 1 _ B off _ _ (λi j=>us i) (by simp) hO hB (Nat.le_refl _) (λr hr=>?_) (λi r j d W hj=>?_) λi r j d W hj=>?_
     .obtain⟨c,hc,rfl⟩:=List.mem_map.1 hr;exact⟨rfl,λd hd=>by rw[List.mem_singleton.1 hd];exact hA c hc⟩
     all_goals
      rw[bc]at W;cases hci:cells[i]? with
      |none=>rw[hci]at W;cases W
      |some c =>
       rw[hci]at W;cases W;rcases j with _|j
       .cases hj
        first
         |exact h2 i _ hci
         |(have:=h1 i _ hci;rw[Nat.mul_one,Nat.add_zero];exact this)
       .simp at hj
  .cases D
 .rename_i t x lo V;split at D
  .cases D;simp only[xK]at h;split at h
   case h_2=>exact h.elim
   rename_i e ei s kd l N K hY;split at h
   case h_2=>exact h.elim
   rename_i e' sz rows fl hf;split at h
   case h_2=>exact h.elim
   rename_i Z;obtain rfl:sz=ei.size:=bg Z;exact⟨_,_,_,Yo hT V N K hY hf h.1 h.2.1,h.2.2⟩
  .cases D
 .rename_i t x lo V;split at D
  .cases D;simp only[xK]at h;split at h
   case h_2=>exact h.elim
   rename_i e ei s kd l N K hY;split at h
   case h_2=>exact h.elim
   rename_i e' sz rows fl hf;split at h
   case h_2=>exact h.elim
   rename_i Z;obtain rfl:sz=ei.size:=bg Z;exact⟨_,_,_,ZB hT V N K hY hf h.1 h.2.1,h.2.2⟩
  .cases D
 .rename_i e x V;cases D;simp only[xK]at h;split at h
  case h_2=>exact h.elim
  rename_i d kO kn hc;split at h
  case h_2=>exact h.elim
  rename_i cs hn;obtain rfl:=xR hn;split at h
  case h_2=>exact h.elim
  rename_i hA hf;have kC:de cx o st (.ptr d 0) [(d,.box cs)]:=de.new (by rw[V];rfl) kn λE st' σ a w hle J=>by
   obtain⟨k1,k2⟩:=kZ hc J.one<|J.ev hle x;refine⟨w.alloc<|.cells (a.eval x).cells e,.pointer<|some ⟨w.heap.size,0,none⟩,.pointer<|some ⟨w.heap.size,0,none⟩,?_,lR _ _,λg hg=>by cases hg;exact Nat.le_refl _,λσ' X hF hk kH G=>⟨?_,?_⟩⟩
   .simp[execOp,V,Instr.box,newVar,newRow,newObj,Sem.run]
   .exact Jv kH hk X (hF _<|Nat.le_refl _) k1 λj c hc=>⟨aax<|aG.1 hA c<|aw hc,k2 j c hc⟩
   .exact .ptr _ _ _ G X
  have hR:∀s,live [(d,Blk.box cs)] s-> ¬live st.heap s:=λs G=>by
   rw[cN.1 G];unfold live;rw[hf];simp
  exact⟨_,_,_,λE a w Q hd J=>kC.1 E st a w Q (St.le.refl st) hd hR J,h⟩
 .cases D
end
def CQ(fre:List Nat)(E:Env):Prop:= ∀q∈fre,E.fix q=none
def aq(cx:Cx)(fre:List Nat)(st st' :St):Prop:= ∀(E:Env) a w,CQ fre E->Sim cx E st a w->Sim cx E st' a w
def aI.toP{cx:Cx}{fre:List Nat}{st st' :St}(h:aI cx st st'):aq cx fre st st' :=λE a w _ j=>h E a w j
def aq.trans{cx:Cx}{fre:List Nat}{a b c:St}(h:aq cx fre a b)(k:aq cx fre b c):aq cx fre a c:=λE x w hp j=>k E x w hp<|h E x w hp j
def abz(cx:Cx)(nt:Nat)(ops:List Oper)(o:Oper)(k:St->Prop)(st:St):Prop :=
 lA ops st o (match Dn cx st o with
     |some r=>(match ed nt o.dst with
      |true=>r.aU.length=r.rows.length/\k ⟨bW st.aY o.dst<|.d<|.int .i64 r.rows.length,(r.s,.row r.e r.sz r.aU r.fl)::st.heap⟩
      |false=>False)
     |none=>(match Ef cx st o with
      |some (g,as)=>(match ed nt o.dst with
       |true=> ∃(ι:Type) (res:ι->AV) (bs:ι->List (Nat×Blk)),(FnC cx g as res bs/\ ∀i,xH (bs i)=true/\tW st.heap (bs i)=true)/\ ∀i,k<|st.put o.dst (res i)<|bs i
       |false=>False)
      |none=>EO cx nt o st λst' =>k st')) (match ed nt o.dst with|true=>k<|st.put o.dst (.tuple []) []|false=>False)
def aaw(cx:Cx)(nt:Nat)(ops:List Oper)(o:Oper)(k:St->Prop)(st:St):abz cx nt ops o k st=seqB cx nt ops [o] k st:=rfl
def RX(cx:Cx)(pv:Int->Value)(nt:Nat)(G:St->Prop)(ops:List Oper)(o:Oper)(D:(St->Prop)->St->Prop)(k:St->Prop)(st:St):Prop :=
 match pOf cx st o with
  | some (f, as) => lA ops st o (match ed nt o.dst with
      |true=>Ee cx pv st f as G λv j=>D k ⟨bW j.aY o.dst v,j.heap⟩
      |false=>False) (match ed nt o.dst with|true=>D k<|st.put o.dst (.tuple []) []|false=>False)
  |none=>(match xOf cx o with
   |some x=>lA ops st o (match ed nt o.dst with
    |true=>xK cx st o.dst x λv sl hp=>D k ⟨bW sl o.dst v,hp⟩
    |false=>False) (match ed nt o.dst with|true=>D k<|st.put o.dst (.tuple []) []|false=>False)
   |none=>abz cx nt ops o (λj=>D k j) st)
noncomputable def RW (cx:Cx) (pv:Int->Value) (nt:Nat) (j:St->Prop) (ops:List Oper) (l:List Oper):(St->Prop)->St->Prop :=
 List.rec (motive:=λ_=>(St->Prop)->St->Prop) (λk st=>k st) (λo _ D k st=>RX cx pv nt j ops o D k st) l
def UN(cx:Cx)(pv:Int->Value)(nt:Nat)(D:St->Prop)(ops:List Oper)(o:Oper)(j:List Oper)(k:St->Prop)(st:St):RW cx pv nt D ops (o::j) k st=RX cx pv nt D ops o (RW cx pv nt D ops j) k st:=rfl
def Oper.YE{P:Program}{o:Oper}{a:Act}{w:World}{K:Act->World->Prop}{Q G :Exit->Act->World->Prop}(h:∀e a w,e≠Exit.normal->Q e a w->G e a w)
 (j:o.wp P a w K Q):o.wp P a w K G :=by
 unfold Oper.wp at *
 generalize (execOp a.eval o).run P w=r at *
 cases r with
 |ok n w' =>
  cases n<;>simp only[Oper.upon]at j ⊢ <;>
   first
    |exact j
    | exact Calls.mono j (fun e I D => by
        cases e
        .exact D
        .exact h _ _ _ (λe=>by cases e) D
        .obtain⟨a,w,H⟩:=D;exact⟨a,w,h _ _ _ (λe=>by cases e) H⟩)
    |exact Rows.mono j λ_ _ D=>D
 |halt x w' =>cases x<;>simp only[Oper.upon]at j ⊢<;>first|exact h _ _ _ (λe=>by cases e) j|exact j
def SB{P:Program}{ops:Array Oper}{Q:Exit->Act->World->Prop}{o:Oper}{j:List Oper}{a:Act}{w:World}
 (h:wpList P ops (λe a w=>match e with| .normal=>wpList P ops Q j a w|e=>Q e a w) [o] a w):wpList P ops Q (o::j) a w:=by
 unfold wpList at h ⊢;split at h
 .rename_i G;rw[if_pos G];rcases h with h|⟨h1,a,w,h2⟩
  .refine .inl ?_;refine Oper.YE (λe a w D I=>?_)<|Oper.wp_mono (λa w H=>?_) h
   .cases e<;>first|exact absurd rfl D|exact I
   .unfold wpList at H;exact H
  .exact .inr ⟨h1,a,w,h2⟩
 .rename_i G;rw[if_neg G];unfold wpList at h;exact h
section
variable {cx:Cx} {pv:Int->Value} {nt:Nat}
def tF(N:bC cx){ops:Array Oper}{E:Env}(H:E.nt=nt){X:St->Prop}{Q:Exit->Act->World->Prop}:∀(l:List Oper) {k:St->Prop} {st:St} {a:Act} {w:World},RW cx pv nt X ops.toList l k st->Sim cx E st a w ->
 (∀st' J w',k st' ->Sim cx E st' J w' ->Q .normal J w')->(∀V J w' (e:Int),e≠0->X V->Sim cx E V J w' ->Q (.panic [{v:=pv e,recovered:=false}]) J w')->wpList cx.P ops Q l a w
 |[],k,st,a,w,h,I,K,_=>K st a w h I
 |o::j,k,st,a,w,h,I,K,G=>by
  rw[UN]at h;unfold RX at h;split at h
  .rename_i f as hp;unfold wpList;rcases uC h I with ⟨U,h⟩|⟨U,h⟩
   .rw[if_pos U];split at h
    .rename_i T;obtain⟨c,x,ho,Z,rfl,has⟩:=UA hp;refine .inl (La ho Z has h (by rw[H];exact eC T) I (λv V J w' W D =>?_) λh1 w' e he hq D =>G _ _ _ e he hq D);exact tF N H j W D K G
    .exact h.elim
   .rw[if_neg<|by simp[U]];split at h
    .rename_i T;exact tF N H j h (jk (by rw[H];exact eC T) I) K G
    .exact h.elim
  .split at h
   .rename_i x hx;unfold wpList;rcases uC h I with ⟨U,h⟩|⟨U,h⟩
    .rw[if_pos U];split at h
     .rename_i T;obtain⟨v,sl,hp,h1,Y⟩:=acC N hx h;exact .inl<|Oper.wp_mono (λJ w' D =>tF N H j Y D K G)<|h1 E a w Q (by rw[H];exact eC T) I
     .exact h.elim
    .rw[if_neg<|by simp[U]];split at h
     .rename_i T;exact tF N H j h (jk (by rw[H];exact eC T) I) K G
     .exact h.elim
   rw[aaw]at h;refine SB (tD N H [o] h I λst' J w' W D =>?_);exact tF N H j W D K G
end
noncomputable def RG (cx:Cx) (pv:Int->Value) (nt:Nat) (D:List Nat) (G:St->Prop) (ops:Array Oper) (j:Bool) (k:St->Prop) (st:St):Prop :=
 match eI 33333 D,j with
 |true,false=>RW cx pv nt G ops.toList ops.toList k (st.cC D)
 |true,true=>nW ops.toList=true/\mw cx pv G nt ops.toList k (ops.size+1) [] [] (st.cC D)
 |false,_=>FW cx nt D ops j k st
def aaW(cx:Cx)(nt:Nat)(id:Nat)(ops:Array Oper)(j:Bool)(st D:St):Prop :=
 ∀(E:Env) (a:Act) (w:World) (R:Exit->Act->World->Prop),E.nt=nt->Sim cx E st a w->(∀G w',Sim cx E D G w' ->R .normal G w')->(Code.region id ops j).wp cx.P R a w
noncomputable def vcp (cx:Cx) (fre:List Nat) (pv:Int->Value) (nt:Nat) (D:Nat->List Nat) (G:St->Prop):Code->(Ex->St->Prop)->St->Prop
 | .skip,Q,st=>Q .normal st
 | .label _,Q,st=>Q .normal st
 | .seq a b,Q,st=>vcp cx fre pv nt D G a (λe s=>match e with| .normal=>vcp cx fre pv nt D G b Q s| .exit id=>Q (.exit id) s| .ret=>Q .ret s) st
 | .cond c a b,Q,st=>(match st.ev cx c with
  | .d (.bool t)=>sI t (vcp cx fre pv nt D G a Q st) (vcp cx fre pv nt D G b Q st)
  | .maybe p=>(p=true->vcp cx fre pv nt D G a Q st)/\vcp cx fre pv nt D G b Q st
  |_=>False)
 | .block id H,Q,st=>vcp cx fre pv nt D G H (λe s=>match e with| .normal=>Q .normal s| .exit j=>(match Nat.beq j id with|true=>Q .normal s|false=>Q (.exit j) s)| .ret=>Q .ret s) st
 | .loop H, Q, st => ∃ (α : Type) (f : α -> St) (J : α -> Prop) (μ : α -> Nat), (∃ x, J x /\ aq cx fre st (f x)) /\
     ∀x,J x->vcp cx fre pv nt D G H (λe s=>match e with| .normal=> ∃y,J y/\μ y<μ x/\aq cx fre s (f y)| .exit j=>Q (.exit j) s| .ret=>Q .ret s) (f x)
 | .exit id,Q,st=>Q (.exit id) st
 | .ret,Q,st=>Q .ret st
 | .region id ops I,Q,st=>(match eI 77777 (D id)with
  |true=> ∃K,aaW cx nt id ops I st K/\Q .normal K
  |false=>(match eI 55555 (D id)with
   |true=> ∃st',aq cx fre st st' /\RG cx pv nt (D id) G ops I (Q .normal) st'
   |false=>RG cx pv nt (D id) G ops I (Q .normal) st))
 | .scope c,Q,st=>vcp cx fre pv nt D G c Q st
 |_,_,_=>False
def EU{cx:Cx}{fre:List Nat}{pv:Int->Value}{nt:Nat}{fz:Nat->List Nat}{Qp:St->Prop}(hT:bC cx)(hm:cx.P.follows .mixedOrders=true){E:Env}(hn:E.nt=nt)(U:CQ fre E):∀(c:Code) {Q:Ex->St->Prop} {st:St} {a:Act} {w:World} {R:Exit->Act->World->Prop},vcp cx fre pv nt fz Qp c Q st->Sim cx E st a w ->
 (∀e st' G w',Q e st' ->Sim cx E st' G w' ->R e.out G w')->(∀K G w' (e:Int),e≠0->Qp K->Sim cx E K G w' ->R (.panic [{v:=pv e,recovered:=false}]) G w')->c.wp cx.P R a w:=by
 intro c;induction c with
 |skip=>intro Q st a w R h H I T;exact wp_skip<|I .normal st a w h H
 |label l=>intro Q st a w R h H I T;exact wp_label<|I .normal st a w h H
 |exit id=>intro Q st a w R h H I T;exact wp_exit<|I (.exit id) st a w h H
 |ret=>intro Q st a w R h H I T;exact wp_ret<|I .ret st a w h H
 |seq x y X Y =>
  intro Q st a w R h H I T;refine wp_seq (X (R:=Exit.then (y.wp cx.P R) R) h H (λe st' G w' N D =>?_) λK G w' e he N D =>T K G w' e he N D);cases e with
  |normal=>exact Y N D I T
  |exit id=>exact I (.exit id) st' G w' N D
  |ret=>exact I .ret st' G w' N D
 |cond c x y X Y =>
  intro Q st a w R h H I T;simp only[vcp]at h;split at h
  .rename_i t ht;have hr:a.eval c= .bool t:=by
    obtain⟨σ,H⟩:=H;have:=H.ev (St.le.refl st) c;rw[ht]at this;exact this.bool
   cases t with
   |true=>exact wp_cond_true hr<|X h H I T
   |false=>exact wp_cond_false hr<|Y h H I T
  .rename_i p ht;have hr:∃t,a.eval c= .bool t/\(t=true->p=true):=by
    obtain⟨σ,H⟩:=H;have:=H.ev (St.le.refl st) c;rw[ht]at this;generalize a.eval c=u at this;cases this with|maybe _ b hb=>exact⟨b,rfl,hb⟩
   obtain⟨t,hr,hp⟩:=hr;cases t with
   |true=>exact wp_cond_true hr<|X (h.1<|hp rfl) H I T
   |false=>exact wp_cond_false hr<|Y h.2 H I T
  .exact h.elim
 |block id body ih =>
  intro Q st a w R h H I T;refine wp_block (ih (R:=Exit.inBlock id R) h H (λe st' G w' N D =>?_) λK G w' e he N D =>T K G w' e he N D);cases e with
  |normal=>exact I .normal st' G w' N D
  |exit j =>
   dsimp only at N;split at N
   .rename_i hj;have hj:=bg hj;simp only[Ex.out,Exit.inBlock,hj,if_true];exact I .normal st' G w' N D
   .rename_i hj;have hj:j≠id:=λe=>by subst e;simp at hj
    simp only[Ex.out,Exit.inBlock,hj,if_false];exact I (.exit j) st' G w' N D
  |ret=>exact I .ret st' G w' N D
 |loop body ih =>
  intro Q st a w R h H I T;obtain⟨α,f,J,μ,⟨x,hx,hw⟩,W⟩:=h;refine wp_loop_ghost (λn a w=> ∃y,J y/\μ y=n/\Sim cx E (f y) a w) (μ x) ⟨x,hx,rfl,hw E a w U H⟩ ?_;rintro n a w ⟨y,hy,rfl,D⟩;refine ih (W y hy) D (λe st' G w' N V =>?_) λK G w' e he N D =>T K G w' e he N D
  cases e with
  |normal =>
   obtain⟨z,hz,hs,kJ⟩:=N;exact⟨μ z,hs,z,hz,rfl,kJ E G w' U V⟩
  |exit j=>exact I (.exit j) st' G w' N V
  |ret=>exact I .ret st' G w' N V
 |region id ops Z =>
  intro Q st a w R h H I T;simp only[vcp]at h;have key:∀{st:St},RG cx pv nt (fz id) Qp ops Z (Q .normal) st->Sim cx E st a w->(Code.region id ops Z).wp cx.P R a w:=by
   intro st h H;unfold RG at h;split at h
   .exact wp_region_list<|tF hT hn ops.toList h (H.cC _) (λst' G w' hk D =>I .normal st' G w' hk D) T
   .exact Yz hT hm hn h.1 h.2 (H.cC _) (λst' G w' hk D =>I .normal st' G w' hk D) T
   .exact PF hT hm hn h H λst' G w' hk D =>I .normal st' G w' hk D
  cases hz:eI 77777 (fz id)with
  |true=>rw[hz]at h;obtain⟨K,h1,h2⟩:=h;exact h1 E a w R hn H λG w' D =>I .normal K G w' h2 D
  |false =>
   rw[hz]at h;simp only at h;cases hw:eI 55555 (fz id)with
   |true=>rw[hw]at h;obtain⟨st',h1,h2⟩:=h;exact key h2<|h1 E a w U H
   |false=>rw[hw]at h;exact key h H
 |scope c ih =>
  intro Q st a w R h H I T;refine wp_scope_straight (ih (R:=Exit.noGoto R) h H (λe st' G w' N D =>?_) λK G w' e he N D =>T K G w' e he N D);cases e<;>exact I _ st' G w' N D
 |_=>intro Q st a w R h;exact h.elim
def DF{cx:Cx}{st:St}{E:Env}{σ:Nat->Value}{a:Act}{w:World}(H:bS cx E st σ a w){bs:List<|Nat×Blk}(h2:rz st bs bs):Holds w E.F E.O bs σ:=by
 obtain⟨σ',W⟩:∃σ',σ' =σ/\bS cx E ⟨[],bs⟩ σ' a w:=by
  have U:∀s,live bs s->live st.heap s:=λs hl=>by
   obtain⟨b,V⟩:=aH.1 hl;exact aH.2 ⟨b,(fZ h2 s b V).1⟩
  refine⟨σ,rfl,?_⟩;have X:bx w w (Own E.O (live st.heap) σ)<|Own E.O (live bs) σ:=bx.less λb V=>by
   rcases V with V|⟨s,H,e⟩
   .exact .inl V
   .exact .inr ⟨s,U s H,e⟩
  refine⟨H.frame,H.new,H.apart,H.defers,H.nt,λt=> .undef _,⟨λs b V=>?_,λs s' b l l' e e' =>H.holds.inj s s' b (U s l) (U s' l') e e'⟩,H.gR,H.ee,λq0 B hB=>⟨(H.fix q0 B hB).1,λh=>(H.fix q0 B hB).2<|U _ h⟩⟩;obtain⟨e1,e2⟩:=fZ h2 s b V;have D:=H.holds.blk s b e1;cases b with
  |box cells =>
   obtain⟨g,cur,t,I,J,K,N,T⟩:=D;exact⟨g,cur,t,I,J,K,N,λj c G=>⟨(T j c G).1,ji U (T j c G).2<|aG.1 e2 c<|aw G⟩⟩
  |row e size rows fl =>
   obtain⟨xs,I,J,K,N,T⟩:=D;refine⟨xs,I,J,K,N,λi r j d Z G=>?_⟩;obtain⟨u,hu,hd⟩:=T i r j d Z G;exact⟨u,hu,hd.mono X⟩
  |smap m =>
   obtain⟨g,es,Y,I,J,K,N,T⟩:=D;refine⟨g,es,Y,I,J,K,N,λj k v G=>?_⟩;obtain⟨e,he,q1,q2⟩:=T j k v G;exact⟨e,he,q1.mono X,q2.mono X⟩
  |cS m=>obtain⟨g,es,Y,I,J,K,N⟩:=D;exact⟨g,es,Y,I,J,K,N.mono λ_ _ h=>h.mono X⟩
  |fb e size rows =>
   obtain⟨g,cur,t,I,J,K,N,T⟩:=D;exact⟨g,cur,t,I,J,K,N,λi r j c Z G=>⟨(T i r j c Z G).1,ji U (T i r j c Z G).2<|aG.1 (aG.1 e2 r<|aw Z) c<|aw G⟩⟩
  |tail e size rows=>exact⟨D.1.mono (λ_ _=>rfl) λ_ _ hr=>hr.mono X,D.2⟩
  |iter left cur=>exact⟨D.1.mono (λ_ _=>rfl) X,D.2⟩
  |dR m =>
   obtain⟨g,es,Y,I,J,K,N,T⟩:=D;exact⟨g,es,Y,I,J,K,N,λj k v G=>by obtain⟨e,he,q1,q2⟩:=T j k v G;exact⟨e,he,q1,ji U q2<|aG.1 e2 _<|aw G⟩⟩
 obtain⟨rfl,W⟩:=W;exact W.holds
def dn1:AV->AV
 | .nil sz=> .d<|.slice sz []
 |v=>v
def dn2:AV->AV
 | .agg cs=> .agg<|cs.map dn1
 |v=>dn1 v
def dn3:AV->AV
 | .tuple vs=> .tuple<|vs.map dn2
 |v=>dn2 v
section
variable {w:World} {O L:Nat->Prop} {σ:Nat->Value}
def OY{c:AV}{v:Value}(h:aC w O L σ c v):aC w O L σ (dn1 c) v:=by
 cases c<;>first|exact h|(cases h;exact .d _ _<|.empty _ _ _)
def Az{c:AV}{v:Value}(h:aC w O L σ c v):aC w O L σ (dn2 c) v:=by
 cases c with
 |agg cs=>cases h with|agg _ vs D j=>exact .agg _ _ (by simpa using D)<|gQ (λc v=>OY) j
 |_=>exact OY h
def OZ{c:AV}{v:Value}(h:aC w O L σ c v):aC w O L σ (dn3 c) v:=by
 cases c with
 |tuple cs=>cases h with|tuple _ vs D j=>exact .tuple _ _ (by simpa using D)<|gQ (λc v=>Az) j
 |_=>exact Az h
end
def zP(cx:Cx)(fre:List Nat)(j:List ResultVar)(out:Option<|AV×List (Nat×Blk))(st:St):Prop:=match out with
 |some (x,h')=>(∃sl,aq cx fre st ⟨sl,h'⟩/\nN cx ⟨sl,h'⟩ j=some x)\/(∃st',aq cx fre st st' /\nN cx st' j=some x/\sY h' x=true/\rz st' h' h')\/ ∃st' v0,aq cx fre st st' /\nN cx st' j=some v0/\dn3 v0=x/\sY h' x=true/\rz st' h' h'
 |none=>False
def qi(cx:Cx)(fre:List Nat)(j:List ResultVar)(out:Option<|AV×List (Nat×Blk)):Ex->St->Prop
 | .normal,st=>zP cx fre j out st
 | .ret,st=>zP cx fre j out st
 | .exit _,_=>False
def bq{cx:Cx}{pv:Int->Value}(fre:List Nat)(fz:Nat->List Nat)(hT:bC cx)(hm:cx.P.follows .mixedOrders=true){f:FuncId}{fn:Func}{c:Code}{args:List AV}{h0:List<|Nat×Blk}{out:Option<|AV×List (Nat×Blk)}(hf:cx.P.funcs[f]? =some fn)(h:vcp cx fre pv fn.ntmps fz (λ_=>out=none) c (qi cx fre fn.results.toList out) ⟨lQ 0 args,h0⟩)(hP:(fn.name== "runtime.NumGoroutine")=false:=by kernel_rfl)(G:fn.body=some c:=by exact rfl)(km:args.length<=fn.ntmps:=by exact bA rfl)(ka:fn.ntmps<=100000:=by exact bA rfl)(hV:fre.all (λq=> !fy (cV h0) q)=true:=by exact rfl):FnP cx pv f args h0 out:=by
 refine⟨⟨fn,hf,hP,by rw[G];rfl⟩,λO w σ vs hO hG kk ks N kh kb=>?_⟩;refine calls_of_wp hf G ?_
 let E:Env:=⟨λb=>dX h0 σ b\/w.heap.size<=b,O,w,fn.ntmps,λq=>if q∈cV h0 then(match σ q with| .pointer (some ⟨B,0,none⟩)=>some B|_=>none)else none,[]⟩
 have Z:∀q B,E.fix q=some B->q∈cV h0/\σ q= .pointer (some ⟨B,0,none⟩):=by
  intro q B H;have H:(if q∈cV h0 then(match σ q with| .pointer (some ⟨B,0,none⟩)=>some B|_=>none)else none)=some B:=H;split at H
  .rename_i hm;split at H
   .rename_i B' e;cases H;exact⟨hm,e⟩
   .cases H
  .cases H
 have J:Sim cx E ⟨lQ 0 args,h0⟩ {tmps:=vs++Array.replicate (fn.ntmps-vs.size) Go.undef,defers:=[]} w:=by
  refine⟨σ,⟨rfl,rfl,rfl,Nat.le_refl _,λ_ _=>rfl⟩,λb G=> .inr G,λb G U=>?_,rfl,?_,λt=>?_,⟨λs b J=>(N.blk s b J).inF λg hg=> .inl ⟨s,aH.2 ⟨b,J⟩,hg⟩,N.inj⟩,hG,λg cells hg=>⟨λU=>?_,(kk g cells hg).1⟩,λq0 B hB=>?_⟩
  .rcases U with U|U
   .exact ks b G U
   .have:=hO b G;omega
  .show(vs++Array.replicate _ Go.undef).size=fn.ntmps
   simp;omega
  .have hg:St.get ⟨lQ 0 args,h0⟩ t=match args[t]? with|some v=>v|none=> .undef:=by
    unfold St.get;rw[qI,if_pos<|Nat.zero_le _,Nat.sub_zero];cases args[t]?<;>rfl
   rw[hg];cases ht:args[t]? with
   |none=>exact .undef _
   |some x =>
    have hs:t<vs.size:=by rw[kh];exact(aA.1 ht).1
    have:(vs++Array.replicate (fn.ntmps-vs.size) Go.undef).getD t Go.undef=vs.getD t Go.undef:=by simp[Array.getElem?_append,hs]
    rw[this];exact kb t x ht
  .rcases U with U|U
   .exact(kk g cells hg).2 U
   .have:=(hG g cells hg).1;omega
  .obtain⟨h1,h2⟩:=Z q0 B hB;exact⟨⟨ka,(lF h1).1⟩,λ_=>h2⟩
 have K:∀{l:List Nat} {i:Nat},i∈l->fy l i=true:=by
  intro l;induction l with
  |nil=>intro i h;cases h
  |cons x t ih =>
   intro i h;unfold fy;split
   .rfl
   .rename_i hx;rcases List.mem_cons.1 h with rfl|h
    .simp at hx
    .exact ih h
 have I:CQ fre E:=λq H=>by
  have h1:=aG.1 hV q H;show(if q∈cV h0 then(match σ q with| .pointer (some ⟨B,0,none⟩)=>some B|_=>none)else none)=none
  refine if_neg λhm=>?_
  rw[K hm]at h1;cases h1
 refine EU hT hm (E:=E) rfl I c h J (λex st' Y w' H W =>?_) λst1 Y w' e he H W =>?_
 .have key:∀st',zP cx fre fn.results.toList out st' ->Sim cx E st' Y w' ->Y.defers=[]/\ ∃u,(results fn Y.tmps).run cx.P w' = .ok u w' /\we (λb=>dX h0 σ b\/w.heap.size<=b) w w' /\aaU pv (λb=>dX h0 σ b\/w.heap.size<=b) O h0 σ w' (.returned u) out:=by
   intro st2 D ke;unfold zP at D;split at D
   .rename_i x h';rcases D with D|⟨st3,hw,hr,hx,hkp⟩|⟨st3,v0,hw,hr,rfl,hx,hkp⟩
    .obtain⟨sl,hw,hr⟩:=D;obtain⟨τ',j⟩:=hw E Y w' I ke;obtain⟨u,hu,T⟩:=qW hT j hr;refine⟨j.defers,u,hu,j.frame,u,τ',rfl,j.holds,λs J V=>?_,T⟩;obtain⟨_,cells,hc⟩:=lF J;obtain⟨B,cur,t,X,_⟩:=N.blk s _ hc;have:E.fix s=some B:=by
      show(if s∈cV h0 then(match σ s with| .pointer (some ⟨B,0,none⟩)=>some B|_=>none)else none)=some B
      rw[if_pos J,X];rfl
     rw[(j.fix s B this).2 V,X]
    .obtain⟨τ',j⟩:=hw E Y w' I ke;obtain⟨u,hu,T⟩:=qW hT j hr;refine⟨j.defers,u,hu,j.frame,u,τ',rfl,DF j hkp,λs J V=>?_,vf (λs V=>?_) T hx⟩
     .obtain⟨_,cells,hc⟩:=lF J;obtain⟨B,cur,t,X,_⟩:=N.blk s _ hc;have:E.fix s=some B:=by
       show(if s∈cV h0 then(match σ s with| .pointer (some ⟨B,0,none⟩)=>some B|_=>none)else none)=some B
       rw[if_pos J,X];rfl
      obtain⟨b,G⟩:=aH.1 V;rw[(j.fix s B this).2<|aH.2 ⟨b,(fZ hkp s b G).1⟩,X]
     .obtain⟨b,G⟩:=aH.1 V;exact aH.2 ⟨b,(fZ hkp s b G).1⟩
    .obtain⟨τ',j⟩:=hw E Y w' I ke;obtain⟨u,hu,T⟩:=qW hT j hr;refine⟨j.defers,u,hu,j.frame,u,τ',rfl,DF j hkp,λs J V=>?_,vf (λs V=>?_) (OZ T) hx⟩
     .obtain⟨_,cells,hc⟩:=lF J;obtain⟨B,cur,t,X,_⟩:=N.blk s _ hc;have:E.fix s=some B:=by
       show(if s∈cV h0 then(match σ s with| .pointer (some ⟨B,0,none⟩)=>some B|_=>none)else none)=some B
       rw[if_pos J,X];rfl
      obtain⟨b,G⟩:=aH.1 V;rw[(j.fix s B this).2<|aH.2 ⟨b,(fZ hkp s b G).1⟩,X]
     .obtain⟨b,G⟩:=aH.1 V;exact aH.2 ⟨b,(fZ hkp s b G).1⟩
   .exact D.elim
  cases ex with
  |normal=>exact key st' H W
  |ret=>exact key st' H W
  |exit id=>exact H.elim
 .subst H;obtain⟨τ',j⟩:=W;exact⟨j.defers,j.frame,e,he,rfl⟩
def fH(s t x:Nat):Nat:=match Nat.beq x s with|true=>t|false=>x
def uX(s t:Nat):fH s t s=t:=by simp[fH]
def wH{s t x:Nat}(h:x≠s):fH s t x=x:=by
 have:Nat.beq x s=false:=by rw[<- Bool.not_eq_true];exact λe=>h<|bg e
 simp[fH,this]
def DU(s t:Nat):AV->AV
 | .ptr x off=> .ptr (fH s t x) off
 | .own x=> .own<|fH s t x
 | .dy x a b c=> .dy (fH s t x) a b c
 | .tl x a b=> .tl (fH s t x) a b
 | .omap x=> .omap<|fH s t x
 | .d y=> .d y
 | .nil z=> .nil z
 | .maybe p=> .maybe p
 |_=> .undef
def uZ(s t:Nat):AV->AV
 | .agg cs=> .agg<|cs.map<|DU s t
 | .fn f a b=> .fn f (a.map<|DU s t)<|b.map<|DU s t
 |v=>DU s t v
def Xz(s t:Nat):AV->AV
 | .tuple vs=> .tuple<|vs.map<|uZ s t
 |v=>uZ s t v
def zI(s t:Nat):Blk->Blk
 | .box cells=> .box<|cells.map<|uZ s t
 | .fb e z rows=> .fb e z (rows.map λr=>r.map<|uZ s t)
 | .dR m=> .dR (m.map λp=>(p.1,uZ s t p.2))
 |b=>b
def St.name(st:St)(s t:Nat):St:=⟨st.aY.map λp=>(p.1,Xz s t p.2),st.heap.map λp=>(fH s t p.1,zI s t p.2)⟩
def Kd{s t:Nat}:∀{hp:List<|Nat×Blk},(∀p∈hp,p.1≠t)->(∀(x:Nat) (b:Blk),find hp x=some b->find (hp.map λp=>(fH s t p.1,zI s t p.2)) (fH s t x)=some (zI s t b)) /\
 (∀(q:Nat) (G :Blk),find (hp.map λp=>(fH s t p.1,zI s t p.2)) q=some G -> ∃x b,find hp x=some b/\q=fH s t x/\G =zI s t b)
 |[],_=>⟨λ_ _ h=>(by cases h),λ_ _ h=>(by cases h)⟩
 |(k,y)::r,j=>by
  obtain⟨V,W⟩:=Kd (s:=s) (t:=t) (hp:=r) λp hp=>j p<|aZ _ hp
  have T:k≠t:=j (k,y) (List.mem_cons_self ..);have H:∀{hp:List<|Nat×Blk} {x b},find hp x=some b->(∀p∈hp,p.1≠t)->x≠t:=by
   intro hp;induction hp with
   |nil=>intro x b h;cases h
   |cons p r X =>
    intro x b h K;by_cases e:p.1=x
    .exact e ▸ K p (List.mem_cons_self ..)
    .rw[show p=(p.1,p.2)from rfl,bp _ _ e]at h;exact X h λp hp=>K p<|aZ _ hp
  have inj:∀{x y:Nat},x≠t->y≠t->fH s t x=fH s t y->x=y:=λ{x y} hx hy e=>by
   by_cases I:x=s
   .subst I;rw[uX]at e;by_cases D:y=x
    .exact D.symm
    .rw[wH D]at e;exact absurd e.symm hy
   .rw[wH I]at e;by_cases D:y=s
    .subst D;rw[uX]at e;exact absurd e hx
    .rw[wH D]at e;exact e
  refine⟨λx b h=>?_,λq G h=>?_⟩
  .by_cases e:k=x
   .subst e;rw[bo]at h;cases h;exact bo ..
   .have U:=H h j;rw[bp _ _ e]at h;show find ((fH s t k,zI s t y)::_) (fH s t x)=_
    rw[bp _ _ λD=>e<|inj T U D];exact V x b h
  .have h:find ((fH s t k,zI s t y)::(r.map λp=>(fH s t p.1,zI s t p.2))) q=some G :=h;by_cases e:fH s t k=q
   .subst e;rw[bo]at h;cases h;exact⟨k,y,bo .., rfl,rfl⟩
   .rw[bp _ _ e]at h;obtain⟨x,b,h1,J,N⟩:=W q G h;refine⟨x,b,?_,J,N⟩;rw[bp _ _ λD=>e<|by rw[D,J]];exact h1
section
variable {w:World} {O L L' :Nat->Prop} {σ σ' :Nat->Value} {s t:Nat}
def uY(H:bx w w (Own O L σ)<|Own O L' σ')(D:∀x,L x->L' (fH s t x)/\σ' (fH s t x)=σ x){c:AV}{v:Value}(h:aC w O L σ c v):aC w O L' σ' (DU s t c) v:=by
 cases h with
 |undef=>exact .undef _
 |d y v h=>exact .d _ _<|h.mono H
 |nil=>exact .nil _
 |maybe p b h=>exact .maybe p b h
 |ptr x off b j h=>exact .ptr _ _ b (D x j).1<|(D x j).2.trans h
 |own x j=>rw[<- (D x j).2];exact .own _ (D x j).1
 |dy x size i off b n cap G j h=>exact .dy _ _ _ _ b n cap G (D x j).1<|(D x j).2.trans h
 |tl x size i b n cap G j h=>exact .tl _ _ _ b n cap G (D x j).1<|(D x j).2.trans h
 |omap x j=>rw[<- (D x j).2];exact .omap _ (D x j).1
 |agg=>exact .undef _
 |tuple=>exact .undef _
 |fn=>exact .undef _
def rX(D:bx w w (Own O L σ)<|Own O L' σ')(j:∀x,L x->L' (fH s t x)/\σ' (fH s t x)=σ x){c:AV}{v:Value}(h:aC w O L σ c v):aC w O L' σ' (uZ s t c) v:=by
 cases c with
 |agg cs=>cases h with|agg _ vs G J=>exact .agg _ _ (by simpa using G)<|gQ (λc v=>uY D j) J
 |fn f a b=>cases h with|fn _ _ _ xs vs H G h1 I=>exact .fn _ _ _ _ _ (by simpa using H) (by simpa using G) (gQ (λc v=>uY D j) h1)<|gQ (λc v=>uY D j) I
 |_=>exact uY D j h
def XA(D:bx w w (Own O L σ)<|Own O L' σ')(j:∀x,L x->L' (fH s t x)/\σ' (fH s t x)=σ x){c:AV}{v:Value}(h:aC w O L σ c v):aC w O L' σ' (Xz s t c) v:=by
 cases c with
 |tuple vs=>cases h with|tuple _ us H G=>exact .tuple _ _ (by simpa using H)<|gQ (λc v=>rX D j) G
 |_=>exact rX D j h
def GX{c:AV}(h:c.one=true\/c= .undef):(uZ s t c).one=true\/uZ s t c= .undef:=by
 rcases h with h|rfl
 .cases c<;>first|exact .inl h|exact .inl rfl|cases h
 .exact .inr rfl
end
variable {cx:Cx}{fre:List Nat}{st:St}
def aq.name(s t:Nat)(ka:st.heap.all (λp=> !Nat.beq p.1 t)=true)(hR:(Nat.blt t 100000||fy fre t)=true):aq cx fre st<|st.name s t:=by
 rintro E a w hW ⟨σ,J⟩;have hQ :∀p∈st.heap,p.1≠t:=λp hp e=>by
  have:=aG.1 ka p hp;rw[e]at this;simp at this
 obtain⟨f1,f2⟩:=Kd (s:=s) (t:=t) hQ;have hs:∀x,live st.heap x->x≠t:=λx hl=>by
  obtain⟨b,H⟩:=aH.1 hl;exact hQ _<|gj H
 obtain⟨σ',kM⟩:∃σ' :Nat->Value,σ' =λq=>if q=t then σ s else σ q:=⟨_,rfl⟩
 have Y:∀x,live st.heap x->live (st.name s t).heap (fH s t x)/\σ' (fH s t x)=σ x:=λx hl=>by
  obtain⟨b,H⟩:=aH.1 hl;refine⟨aH.2 ⟨_,f1 x b H⟩,?_⟩;rw[kM];by_cases e:x=s
  .subst e;rw[uX];exact if_pos rfl
  .rw[wH e];exact if_neg<|hs x hl
 have Z :∀q,live (st.name s t).heap q-> ∃x,live st.heap x/\q=fH s t x:=λq hq=>by
  obtain⟨b,H⟩:=aH.1 hq;obtain⟨x,b0,h1,h2,_⟩:=f2 q b H;exact⟨x,aH.2 ⟨b0,h1⟩,h2⟩
 have V:bx w w (Own E.O (live st.heap) σ)<|Own E.O (live (st.name s t).heap) σ':=bx.less λb H=>by
  rcases H with H|⟨q,hq,e⟩
  .exact .inl H
  .obtain⟨x,h1,rfl⟩:=Z q hq;exact .inr ⟨x,h1,by rw[<- (Y x h1).2];exact e⟩
 refine⟨σ',J.frame,J.new,J.apart,J.defers,J.nt,λu=>?_,⟨λq b H=>?_,λq q' b lq kN =>?_⟩,J.gR,J.ee,λq0 B hB=>⟨(J.fix q0 B hB).1,λhl=>?_⟩⟩
 .have hg:(st.name s t).get u=Xz s t (st.get u):=by
   simp only[St.get,St.name,nv];cases find st.aY u<;>rfl
  rw[hg];exact XA V Y<|J.aY u
 .obtain⟨x,b0,h1,rfl,rfl⟩:=f2 q b H;have hl:live st.heap x:=aH.2 ⟨b0,h1⟩;have D:=J.holds.blk x b0 h1;have W:σ' (fH s t x)=σ x:=(Y x hl).2;cases b0 with
  |box cells =>
   obtain⟨g,cur,ty,N,T,K,U,X⟩:=D;refine⟨g,cur,ty,W.trans N,T,K,by simpa using U,λj c I=>?_⟩;rw[bc]at I;cases hc:cells[j]? with
   |none=>rw[hc]at I;cases I
   |some y =>
    rw[hc]at I;cases I;exact⟨GX (X j y hc).1,rX V Y (X j y hc).2⟩
  |row e size rows fl =>
   obtain⟨xs,N,T,K,U,X⟩:=D;refine⟨xs,(by rw[W];exact N),λb H=>T b<|by rw[<- W];exact H,⟨K.1,λh=>(by rw[W];exact K.2 h)⟩,U,λi r j d hi I=>?_⟩;obtain⟨u,u1,u2⟩:=X i r j d hi I;exact⟨u,u1,u2.mono V⟩
  |smap m =>
   obtain⟨g,es,G,N,T,K,U,X⟩:=D;refine⟨g,es,G,W.trans N,T,K,U,λj k v I=>?_⟩;obtain⟨e,e1,e2,e3⟩:=X j k v I;exact⟨e,e1,e2.mono V,e3.mono V⟩
  |cS m =>
   obtain⟨g,es,G,N,T,K,U⟩:=D;exact⟨g,es,G,W.trans N,T,K,U.mono λ_ _ h=>h.mono V⟩
  |fb e size rows =>
   obtain⟨g,cur,ty,N,T,K,U,X⟩:=D;refine⟨g,cur,ty,by simpa using W.trans N,T,K,λr hr=>?_,λi r j c hi I=>?_⟩
   .obtain⟨r0,h0,rfl⟩:=List.mem_map.1 hr;rw[au];exact U r0 h0
   .obtain⟨r0,c0,q1,q2,rfl⟩:=CG hi I;obtain⟨⟨q3,q4⟩,q5⟩:=X i r0 j c0 q1 q2;exact⟨⟨GX q3,q4⟩,rX V Y q5⟩
  |tail e size rows =>
   show jQ w _ e size rows (σ'<|fH s t x)/\_
   rw[W];exact⟨D.1.mono (λ_ _=>rfl) λ_ _ hr=>hr.mono V,D.2⟩
  |iter left cur =>
   show rH w _ left cur (σ'<|fH s t x)/\_
   rw[W];exact⟨D.1.mono (λ_ _=>rfl) V,D.2⟩
  |dR m =>
   obtain⟨g,es,G,N,T,K,U,X⟩:=D;refine⟨g,es,G,W.trans N,T,K,by rw[au];exact U,λj k v I=>?_⟩;obtain⟨v0,hX,rfl⟩:=wX I;obtain⟨e,e1,e2,e3⟩:=X j k v0 hX;exact⟨e,e1,e2,rX V Y e3⟩
 .intro e e';obtain⟨x,h1,rfl⟩:=Z q lq;obtain⟨x',kj,rfl⟩:=Z q' kN;rw[J.holds.inj x x' b h1 kj (by rw[<- (Y x h1).2];exact e)<|by rw[<- (Y x' kj).2];exact e']
 .obtain⟨x,h1,rfl⟩:=Z q0 hl;by_cases e:x=s
  .subst e;rw[uX]at hB hl ⊢;exfalso;rw[Bool.or_eq_true]at hR;rcases hR with h|h
   .have h1:=(J.fix t B hB).1.2;have h2:t<100000:=Nat.lt_of_succ_le<|bA h;omega
   .rw[hW t<|ll h]at hB;cases hB
  .rw[(Y x h1).2];rw[wH e]at hB;exact(J.fix x B hB).2 h1
def aI.Sj(s:Nat)(T D:Blk)(V:find st.heap s=some T)(J:∀(w:World) (F O L:Nat->Prop) (σ:Nat->Value),du w F O L σ s T->du w F O L σ s D):aI cx st ⟨st.aY,(s,D)::st.heap⟩:=by
 rintro E a w ⟨σ,j⟩;have K:live st.heap s:=aH.2 ⟨_,V⟩;have H:live ((s,D)::st.heap)=live st.heap:=gx K;refine⟨σ,j.frame,j.new,j.apart,j.defers,j.nt,λq=>?_,⟨λx b X=>?_,λx y b l I f W =>?_⟩,j.gR,j.ee,λN B U=>⟨(j.fix N B U).1,λh=>?_⟩⟩
 .show aC w E.O (live<|(s,D)::st.heap) σ (st.get q) _
  rw[H];exact j.aY q
 .show du w E.F E.O (live<|(s,D)::st.heap) σ x b
  rw[H];have G :find ((s,D)::st.heap) x=some b:=X;rw[gI]at G;split at G
  .rename_i Y;subst Y;cases G;exact J _ _ _ _ _<|j.holds.blk _ _ V
  .exact j.holds.blk x b G
 .have l:live ((s,D)::st.heap) x:=l;have I :live ((s,D)::st.heap) y:=I;rw[H]at l I;exact j.holds.inj x y b l I f W
 .have h:live ((s,D)::st.heap) N:=h;rw[H]at h;exact(j.fix N B U).2 h
def amD(m:List<|List UInt8×D):List<|List UInt8×AV:=m.map λp=>(p.1,.d p.2)
def aI.Vi(s:Nat)(m:List<|List UInt8×D)(J:find st.heap s=some (.smap m)):aI cx st ⟨st.aY,(s,.dR<|amD m)::st.heap⟩:=by
 refine aI.Sj s _ _ J λw F O L σ h=>?_
 obtain⟨g,es,H,U,V,W,X,Y⟩:=h;refine⟨g,es,H,U,V,W,by rw[amD,au];exact X,λj k v K=>?_⟩;obtain⟨v0,G,rfl⟩:=wX K;obtain⟨e,I,N,T⟩:=Y j k v0 G;exact⟨e,I,pP N rfl,.d _ _ T⟩
def aI.Uw(s:Nat)(m:List<|List UInt8×D)(K:find st.heap s=some (.dR<|amD m)):aI cx st ⟨st.aY,(s,.smap m)::st.heap⟩:=by
 refine aI.Sj s _ _ K λw F O L σ h=>?_
 obtain⟨g,es,I,U,V,W,H,X⟩:=h;refine⟨g,es,I,U,V,W,by rw[amD,au]at H;exact H,λj k v N=>?_⟩;obtain⟨e,J,T,G⟩:=X j k (.d v) (by rw[amD,bc,N];rfl);refine⟨e,J,T.rep,?_⟩;generalize e.val=u at G;cases G;assumption
variable {x:AV}
def kF{pv:Int->Value}{f:FuncId}{args:List D}(h:FnP cx pv f (args.map D.gT) []<|some (x,[])):Fn cx f args x []:=by
 refine⟨h.1,λO w vs Z Y T W N=>?_⟩;have H:∀{s:Nat},¬live ([]:List<|Nat×Blk) s:=λ{s} G=>by simp[live,find]at G
 have U:∀b,¬dX [] (λ_=>Value.nilFunc) b:=λb ⟨s,G,_⟩=>H G
 have hk:bx w w O (Own O (live []) λ_=>Value.nilFunc):=bx.less λb I=>by
  rcases I with I|⟨s,G,_⟩
  .exact I
  .exact(H G).elim
 refine(h.2 O w (λ_=> .nilFunc) vs Z Y (λg cells hg=>⟨T g cells hg,U g⟩) (λb _=>U b) ⟨λs b I=>by simp[find]at I,λs s' b G=>(H G).elim⟩ (by rw[W,au]) λj c K=>?_).mono λen w' =>?_
 .rw[bc]at K;cases V:args[j]? with
  |none=>rw[V]at K;cases K
  |some d=>rw[V]at K;cases K;exact pB<|(N j d V).mono hk
 .rintro⟨J,u,σ',rfl,X,_,hr⟩;exact⟨u,σ',rfl,⟨J.os,J.tape,J.output,J.size,λb I=>J.block b λX=>X.elim (U b) λh=>by omega⟩,⟨λs b I=>by simp[find]at I,λs s' b G=>(H G).elim⟩,hr⟩
def aq.keep{sl:List<|Nat×AV}{h:List<|Nat×Blk}(h1:IE st h sl:=by repeat' (first|exact trivial|refine⟨⟨rfl,rfl⟩,?_⟩|refine⟨⟨bj<|by omega,rfl⟩,?_⟩))(j:rz st h h:=by repeat' (first|exact trivial|refine⟨⟨rfl,rfl⟩,?_⟩)):aq cx fre st ⟨sl,h⟩:=(aI.keep h1 j).toP
def aq.refl(st:St):aq cx fre st st:=(aI.refl st).toP
def aq.vK(l:List Nat):aq cx fre st<|st.cC l:=(aI.vK l).toP
variable {rs:List ResultVar}
def jW{j:AV}(h:nN cx st rs=some j)(D:sY [] j =true)(e:j =x):zP cx fre rs (some (x,[])) st:= .inr<|.inl ⟨st,aq.refl st,by rw[h,e],by rw[<- e];exact D,trivial⟩
def Lh{j:AV}(l:List Nat)(h:nN cx (st.cC l) rs=some j)(D:sY [] j =true)(e:j =x):zP cx fre rs (some (x,[])) st:= .inr<|.inl ⟨_,aq.vK l,by rw[h,e],by rw[<- e];exact D,trivial⟩
def aq.jy(k j s sz:Nat)(cells:List AV)(e:TypeId)(D :Nat)(G:find st.heap k=some (.box cells))(H:cells[j]? =some (.nil sz))(I:find st.heap s=none)(J:0<D)(K:Nat.blt s 100000=true:=by rfl) :
 aq cx fre st ⟨st.aY,(s,.row e D [])::(k,.box<|cells.set j<|.own s)::st.heap⟩:=(aI.jy k j s sz cells e D G H I J K).toP
def aq.kz(t s sz:Nat)(e:TypeId)(j :Nat)(h1:st.get t= .nil sz)(D:find st.heap s=none)(G:0<j)(H:Nat.blt s 100000=true:=by rfl):aq cx fre st ⟨(t,.own s)::st.aY,(s,.row e j [])::st.heap⟩:=(aI.kz t s sz e j h1 D G H).toP
variable {h':List (Nat×Blk)}
def ck{v0:AV}(h:nN cx st rs=some v0)(e:dn3 v0=x)(D:sY h' x=true)(j:rz st h' h' :=by repeat' (first|exact trivial|refine⟨⟨rfl,rfl⟩,?_⟩)):zP cx fre rs (some (x,h')) st:= .inr<|.inr ⟨st,v0,aq.refl st,h,e,D,j⟩
def iu{v0:AV}{st':St}(D:aq cx fre st st')(h:nN cx st' rs=some v0)(e:dn3 v0=x)(G:sY h' x=true)(j:rz st' h' h' :=by repeat' (first|exact trivial|refine⟨⟨rfl,rfl⟩,?_⟩)):zP cx fre rs (some (x,h')) st:= .inr<|.inr ⟨st',v0,D,h,e,G,j⟩
