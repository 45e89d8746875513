/-
  Merged texts.
-/
import Derived.Test.YtodofogcincleaaGreatDoorMQt
import Derived.Lib.AppendStr
import Derived.Lib.ConvBytes
set_option linter.all false
namespace NQ
open Go Go.RowKit
def eC(s:List UInt8):List (List D):=s.map λc=>[.int .u8 (c.toNat:Int)]
inductive XOp where
 |app (t u:TypeId) (s x:Operand)
 |conv (src dst:TypeId) (x:Operand)
 |arr (t:TypeId) (x:Operand)
 |box (x:Operand)
 |tail (t:TypeId) (x lo:Operand)
 |cut (t:TypeId) (x hi:Operand)
 |clr (t:TypeId) (x:Operand)
def Uq:AV->Bool
 | .undef=>true
 |c=>c.one
theorem Ti{c:AV}(h:Uq c=true):c.one=true\/c= .undef:=by
 cases c <;> first|exact .inl h|exact .inr rfl
def xOf(cx:Cx)(o:Oper):Option XOp :=
 match o.op with
 | .call c=>(match c.callee,c.args.toList,c.argTypes.toList with
  | .builtin .append,[s,x],[t,u]=>(match isStr cx u with|true=>some (.app t u s x)|false=>none)
  | .builtin .clear,[x],[t]=>some (.clr t x)
  |_,_,_=>none)
 | .convert src dst x=>(match isStr cx src,cB cx dst with|true,some _=>some (.conv src dst x)|_,_=>none)
 | .slice t x none none none=>(match arrayElem cx t with|some _=>some (.arr t x)|none=>none)
 | .slice t x (some lo) none none=>(match inL 777001 cx.bld with|true=>some (.tail t x lo)|false=>none)
 | .slice t x none (some hi) none=>(match inL 777001 cx.bld with|true=>some (.cut t x hi)|false=>none)
 | .box _ x=>some (.box x)
 |_=>none
def FK(ei:TI):Bool:=match ei with
 |⟨1,1,.int .u8,[.d (.int .u8 0)]⟩=>true
 |_=>false
def xK(cx:Cx)(st:St)(d:Option Nat)(x:XOp)(k:AV->List (Nat×AV)->List (Nat×Blk)->Prop):Prop :=
 match x with
 | .app t u s x=>(match cB cx t,st.ev cx x with
  |some (e,ei),.d (.str b)=>(match FK ei with
   |true=>(match st.ev cx s with
    | .own s=>(match find st.heap s with
     |some (.row e' hU rows _)=>(match Nat.beq e e',Nat.beq 1 hU with
      |true,true=>rows.length+b.length<=140737488355328/\k (.own s) (il s st.aV) ((s,.row e' hU (rows++eC b))::eL s st.heap)
      |_,_=>False)
     |_=>False)
    | .nil _=>(match d with
     |some d=>(match find st.heap d with
      |none=>b.length<=140737488355328/\k (.own d) st.aV ((d,.row e 1 (eC b))::st.heap)
      |some _=>False)
     |none=>False)
    |_=>False)
   |false=>False)
  |_,_=>False)
 | .conv src dst x=>(match cB cx dst,st.ev cx x with
  |some (e,ei),.d (.str b)=>(match FK ei with
   |true=>k (.d (.slice 1 (eC b))) st.aV st.heap
   |false=>False)
  |_,_=>False)
 | .arr t x=>(match arrayElem cx t,st.ev cx x with
  |some (n,ei),.d (.ptr cells)=>(match Nat.beq ei.size 1,Nat.beq n cells.length with
   |true,true=>k (.d (.slice 1 (cells.map λc=>[c]))) st.aV st.heap
   |_,_=>False)
  |_,_=>False)
 | .box x=>(match d,cellsOf (st.ev cx x)with
  |some d,some cs=>(match xw cs with
   |some cs=>(match cs.all Uq,find st.heap d with
    |true,none=>k (.ptr d 0) st.aV ((d,.box cs)::st.heap)
    |_,_=>False)
   |none=>False)
  |_,_=>False)
 | .tail t x lo=>(match cB cx t,st.ev cx x,st.ev cx lo with
  |some (_,ei),.own s,.d (.int _ l)=>(match find st.heap s with
   |some (.row _ sz rows _)=>(match Nat.beq sz ei.size with
    |true=>0<=l/\l.toNat<rows.length/\k (.tl s sz l.toNat) st.aV st.heap
    |false=>False)
   |_=>False)
  |_,_,_=>False)
 | .cut t x hi=>(match cB cx t,st.ev cx x,st.ev cx hi with
  |some (_,ei),.own s,.d (.int _ l)=>(match find st.heap s with
   |some (.row e sz rows _)=>(match Nat.beq sz ei.size with
    |true=>0<=l/\l.toNat<rows.length/\k (.own s) (il s st.aV) ((s,.row e sz (rows.take l.toNat))::eL s st.heap)
    |false=>False)
   |_=>False)
  |_,_,_=>False)
 | .clr t x=>(match cB cx t,st.ev cx x with
  |some (e,ei),.tl s kI i=>(match find st.heap s,cA eI ei.zero with
   |some (.row e' sz rows fl),some z=>(match Nat.beq e e',Nat.beq sz ei.size,Nat.beq kI sz with
    |true,true,true=>i<rows.length/\k (.tuple []) st.aV ((s,.row e' sz (rows.take i++List.replicate (rows.length-i) z) fl)::st.heap)
    |_,_,_=>False)
   |_,_=>False)
  |_,_=>False)
theorem Jm{ei:TI}(h:FK ei=true):ei=⟨1,1,.int .u8,[.d (.int .u8 0)]⟩:=by
 unfold FK at h;split at h
 .rfl
 .cases h
theorem size_data(b:ByteArray):b.size=b.data.toList.length:=by rw[Array.length_toList];rfl
theorem GC{b:ByteArray}{j:Nat}{r:List D}{q:Nat}{d:D}(hi:(eC b.data.toList)[j]? =some r)(hj:r[q]? =some d):∃z,(Lib.strCells b)[j*1+q]? =some z/\ ∀{w:World} {O:Nat->Prop},Rep w O d z:=by
 unfold eC at hi;rw[bc]at hi;cases hc:b.data.toList[j]? with
 |none=>rw[hc]at hi;cases hi
 |some c =>
  rw[hc]at hi;cases hi;rcases q with _|q
  .cases hj;refine⟨.int .u8 c.toNat,?_,.int _ _⟩;rw[Nat.mul_one,Nat.add_zero,Lib.strCells,bc,hc];rfl
  .simp at hj
section
variable {cx:Cx} {st:St} {σ:Nat->Value} {a:Act} {w:World} {E:Env}
theorem uP(b:List UInt8):∀r∈eC b,r.length=1/\ ∀d∈r,d.one=true:=λr hr=>by
 obtain⟨c,_,rfl⟩:=List.mem_map.1 hr;exact⟨rfl,λd hd=>by rw[List.mem_singleton.1 hd];rfl⟩
theorem sI(b:List UInt8):(eC b).length=b.length:=by simp[eC]
theorem zH(hT:bD cx){t e u ty:TypeId}{ei:TI}(hN:cB cx t=some (e,ei))(kj:FK ei=true)(hu:isStr cx u=true){O:Nat->Prop}
 {v:Value} {n:Nat} {xs:List Value} (hX:w.ownsRow 0 e 1 v n xs) (b:ByteArray) (xd:n+b.size<=140737488355328) :
 ∃v' w' news,(Builtin.append_ #[t,u] ty #[v,.string b]).run cx.P w= .ok v' w' /\w'.ownsRow 0 e 1 v' (n+(eC b.data.toList).length) (xs++news)/\w.grownBy w' v.ownBlock/\(∀g,home v' =some g->home v=some g\/w.heap.size<=g) /\
  (∀r∈eC b.data.toList,r.length=1/\ ∀d∈r,d.one=true)/\ ∀i r j d,(eC b.data.toList)[i]? =some r->r[j]? =some d-> ∃z,news[i*1+j]? =some z/\Rep w O d z:=by
 obtain rfl:=Jm kj;obtain⟨ti,ht,ks,kp⟩:=cC hN;obtain⟨_,_,_,_,t2,t3,_⟩:=hT _ _ ht;rw[ks]at t3;obtain rfl:=bZ t3;obtain⟨tu,kS,kZ⟩:=jH hu;obtain⟨_,_,_,_,u2,u3,_⟩:=hT _ _ kS;rw[kZ]at u3;obtain rfl:=ff u3;obtain⟨info,desc,zv,i1,i2,i3,i4,i5,i6,i7,i8,i9,i10⟩:=hT _ _ kp;have i4:info.size=1:=i4;have i5:info.bytes=1:=i5;have xu:zv= .int .u8 0:=by
  have h9:=i9 0 _ rfl;have xa:zv.oneCell' =true:=i10;have h7:zv.cells.size=1:=i7;cases zv <;> first|(cases xa;done)|(simp[Value.cells,jA]at h9;first|done|exact congrArg _ h9|(obtain⟨rfl,rfl⟩:=h9;rfl))
 subst xu;obtain⟨v',w',r1,r2,r3,_⟩:=Lib.run_append_own_string (P:=cx.P) w 0 t u ty e info t2 u2 i1 i6 i4 i5 v n xs hX b (by unfold maxLen;omega) xd (Nat.zero_le _);refine⟨v',w',_,r1,by rw[sI, <- size_data];exact r2,r3,λg hg=>?_,uP _,λi r j d hi hj=>?_⟩
 .rcases hX.2 with ⟨rfl,rfl⟩|⟨g0,cap,cur,rfl,_,xh,xC,_,xB,_⟩
  .by_cases h0:b.size=0
   .have kT:xs=[]:=List.eq_nil_of_length_eq_zero (by have:=hX.1;simpa using this);subst kT;have hn:Lib.strCells b=[]:=List.eq_nil_of_length_eq_zero (by rw[Lib.strCells_length];exact h0);have hf:=Lib.run_firstCells_string (P:=cx.P) w 1 b;rw[h0]at hf;have:(Builtin.append_ #[t,u] ty #[.slice none 0 0,.string b]).run cx.P w= .ok (.slice none 0 0) w:=by
     simp[Builtin.append_,run_underlying t2,run_underlying u2,Go.sizeOf,typeInfo,i1,i4,Builtin.lenOf,h0,hf]
    rw[this]at r1;cases r1;cases hg
   .have:=run_append_nil_string (P:=cx.P) w t u ty e info (.int .u8 0) t2 u2 i1 i6 b (by omega) (by omega) (by rw[i5];omega);rw[this]at r1;cases r1;cases hg;exact .inr (Nat.le_refl _)
  .by_cases kx:n+b.size<=cap
   .have:=Lib.run_append_room_string (P:=cx.P) w t u ty e info t2 u2 i1 i4 g0 n cap cur xh b kx (by omega);rw[this]at r1;cases r1;exact .inl hg
   .have:=Lib.run_append_grow_string (P:=cx.P) w t u ty e info (.int .u8 0) t2 u2 i1 i6 ⟨g0,0,none⟩ n cap xs (by rw[i4];exact hX.1) (hX.cells (g:=g0) rfl) b (by omega) (by omega) (by rw[i5];exact growslice_fits (by omega) (by omega));rw[this]at r1;cases r1;cases hg;exact .inr (Nat.le_refl _)
 .obtain⟨z,hz,hd⟩:=GC hi hj;exact⟨z,hz,hd⟩
theorem Vs(hT:bD cx){o:Oper}{x0:XOp}(hC:xOf cx o=some x0){k:AV->List (Nat×AV)->List (Nat×Blk)->Prop}(h:xK cx st o.dst x0 k):∃v sl hp,jh cx o st ⟨bF sl o.dst v,hp⟩/\k v sl hp:=by
 unfold xOf at hC;split at hC
 .rename_i c ho;split at hC
  .rename_i s x t u km kn ko;split at hC
   .rename_i hu;cases hC;have kJ :c={callee:= .builtin .append,args:= #[s,x],argTypes:= #[t,u]}:=by
     obtain⟨cc,ca,ct⟩:=c;simp only at km kn ko;subst km;have e1:ca= #[s,x]:=by rw[<- Array.toList_inj];exact kn
     have e2:ct= #[t,u]:=by rw[<- Array.toList_inj];exact ko
     rw[e1,e2]
    rw[kJ]at ho;have hE:∀(a:Act) (w:World) {z:Value} {w' :World},(Builtin.append_ #[t,u] o.type #[a.eval s,a.eval x]).run cx.P w= .ok z w' ->(execOp a.eval o).run cx.P w= .ok (.value z) w' :=λa w z w' hh=>by
     simp[execOp,ho,resolve,invoke,builtin,hh]
    simp only[xK]at h;split at h
    case h_2=>exact h.elim
    rename_i e ei b hN hS;split at h
    case h_2=>exact h.elim
    rename_i kj;have kz:(0:Nat)<1:=Nat.one_pos;split at h
    .rename_i site kR;split at h
     .rename_i e' hU rows xA hf;split at h
      .rename_i c1 c2;obtain rfl:e=e' :=bd c1;obtain rfl:1=hU :=bd c2;obtain⟨b1,hk⟩:=h;refine⟨_,_,_,λE a w Q hd ⟨σ,hs⟩=>?_,hk⟩;have kg:=hs.ev (St.le.refl st) s;rw[kR]at kg;have hJ:=hs.ev (St.le.refl st) x;rw[hS]at hJ;obtain⟨bb,kl,rfl⟩:=hJ.str;obtain⟨xs,o1,o2,o3,o4,o5⟩:=hs.holds.blk site _ hf;have hl:live st.heap site:=aH.2 ⟨_,hf⟩;obtain⟨v',w',news,r1,r2,r3,r4,r5,r6⟩:=zH (O:=Own E.O (live st.heap) σ) (ty:=o.type) hT hN kj hu o1 bb (by rw[size_data];exact b1);have ki :a.eval s=σ site:=by generalize a.eval s=u at kg;cases kg;rfl
       rw[<- ki, <- kl]at r1;simp only[Oper.wp,hE a w r1,Oper.upon];refine hs.GI (τ:=v') hd hl (λaa e=>by rcases o1.2 with ⟨e',_⟩|⟨_,_,_,e',_⟩ <;> (rw[e']at e;cases e)) r3.os r3.tape r3.output r3.size (λq hq ku=>r3.block q hq λe=>ku ?_) r4 (λσ' e1 hW=>?_) (λσ' e1=>?_)
       .have:(σ site).ownBlock=some q:=e.symm;generalize σ site=z at this ⊢;cases z <;> simp[Value.ownBlock]at this;rename_i aa _ _;cases aa <;> simp[Value.ownBlock]at this;simp[home,this]
       .refine⟨xs++news,by rw[e1,List.length_append];exact r2,λb hb=>?_,⟨o3.1,λe=>by cases e⟩,λr hr=>?_,mM (by rw[o1.1]) hW o5 r6⟩
        .rw[e1]at hb;rcases r4 b hb with hb|hb
         .exact o2 b hb
         .exact hs.new b (Nat.le_trans hs.frame.size hb)
        .rcases List.mem_append.1 hr with hr|hr
         .exact o4 r hr
         .exact r5 r hr
       .have:=aG.own (w:=w') (O:=E.O) (σ:=σ') site hl;rw[e1]at this;exact this
      .exact h.elim
     .exact h.elim
    .rename_i z0 kR;split at h
     .rename_i d kX;split at h
      .rename_i hf;obtain⟨b1,hk⟩:=h;refine⟨_,_,_,λE a w Q hd ⟨σ,hs⟩=>?_,hk⟩;have kg:=hs.ev (St.le.refl st) s;rw[kR]at kg;have hJ:=hs.ev (St.le.refl st) x;rw[hS]at hJ;obtain⟨bb,kl,rfl⟩:=hJ.str;have ki :a.eval s= .slice none 0 0:=by generalize a.eval s=u at kg;cases kg;rfl
       obtain⟨v',w',news,r1,r2,r3,r4,r5,r6⟩:=zH (O:=Own E.O (live st.heap) σ) (ty:=o.type) hT hN kj hu (World.ownsRow_nil w 0 e 1) bb (by rw[size_data];simpa using b1);rw[<- ki, <- kl]at r1;simp only[Oper.wp,hE a w r1,Oper.upon];have hn:¬live st.heap d:=by unfold live;rw[hf];simp
       let σ' :Nat->Value:=λx=>if x=d then v' else σ x
       have e1:σ' d=v' :=if_pos rfl;have e2:∀x,live st.heap x->σ' x=σ x:=λx hl=>if_neg λ(e:x=d)=>hn (e ▸ hl)
       have hV:Below w.heap.size w w' :=pP r3;have kb:∀g,home v' =some g->w.heap.size<=g:=λg hg=>by
        rcases r4 g hg with h|h
        .cases h
        .exact h
       have hW:bw w w' (Own E.O (live st.heap) σ) (Own E.O (live ([(d,Blk.row e 1 (eC bb.data.toList))]++st.heap)) σ'):=by
        refine⟨hV.size,λx _ hx=>hV.block x hx,λx kY hx ho=>?_⟩;rcases ho with ho|⟨y,hl,e⟩
        .exact kY (.inl ho)
        .rcases cJ.1 hl with hl|hl
         .rw[cv.1 hl,e1]at e;have:=kb x e;omega
         .rw[e2 y hl]at e;exact kY (.inr ⟨y,hl,e⟩)
       have xl:live ([(d,Blk.row e 1 (eC bb.data.toList))]++st.heap) d:=cJ.2 (.inl (cv.2 rfl));have xf:∀q0 B,E.fix q0=some B-> ¬live [(d,Blk.row e 1 (eC bb.data.toList))] q0:=λq0 B hB hl=>by
        have h1:=(hs.fix q0 B hB).1;have h2:d<E.nt:=hd d (by assumption);have h3:q0=d:=cv.1 hl;omega
       refine⟨σ',hs.grow (bs:=[(d,Blk.row e 1 (eC bb.data.toList))]) (v:= .own d) hd e2 hV xf (λx g hl e=>?_) (λx y g hl xi _ _=>(cv.1 hl).trans (cv.1 xi).symm) (λx b hb=>?_) ?_⟩
       .rw[cv.1 hl,e1]at e;exact kb g e
       .have hl:=cv.1 (aH.2 ⟨b,hb⟩);subst hl;rw[bk]at hb;cases hb;refine⟨news,by rw[e1];simpa using r2,λb hb=>?_,⟨kz,λe=>by cases e⟩,r5,λi r j d hi hj=>?_⟩
        .rw[e1]at hb;exact hs.new b (Nat.le_trans hs.frame.size (kb b hb))
        .obtain⟨u,hu,hd⟩:=r6 i r j d hi hj;exact⟨u,hu,hd.mono hW⟩
       .have:=aG.own (w:=w') (O:=E.O) (σ:=σ') d xl;rw[e1]at this;exact this
      .exact h.elim
     .exact h.elim
    .exact h.elim
   .cases hC
  .rename_i x t km kn ko;cases hC;have kJ :c={callee:= .builtin .clear,args:= #[x],argTypes:= #[t]}:=by
    obtain⟨cc,ca,ct⟩:=c;simp only at km kn ko;subst km;have e1:ca= #[x]:=by rw[<- Array.toList_inj];exact kn
    have e2:ct= #[t]:=by rw[<- Array.toList_inj];exact ko
    rw[e1,e2]
   rw[kJ]at ho;simp only[xK]at h;split at h
   case h_2=>exact h.elim
   rename_i e ei s kI i hN hS;split at h
   case h_2=>exact h.elim
   rename_i e' sz rows fl z hf hz;split at h
   case h_2=>exact h.elim
   rename_i he hM xo;obtain rfl:e=e' :=bd he;obtain rfl:kI=sz:=bd xo;obtain rfl:kI=ei.size:=bd hM;exact⟨_,_,_,Sp hT ho hN hz hS hf h.1,h.2⟩
  .cases hC
 .rename_i src dst x ho;split at hC
  .rename_i kQ xp;cases hC;simp only[xK]at h;split at h
   case h_2=>exact h.elim
   rename_i e ei b hN hS;split at h
   case h_2=>exact h.elim
   rename_i kj;obtain rfl:=Jm kj;refine⟨_,_,_,λE a w Q hd ⟨σ,hs⟩=>?_,h⟩;obtain⟨ti,ht,ks,kp⟩:=cC hN;obtain⟨_,_,_,_,t2,t3,_⟩:=hT _ _ ht;rw[ks]at t3;obtain rfl:=bZ t3;obtain⟨tu,kS,kZ⟩:=jH kQ;obtain⟨_,_,_,_,u2,u3,_⟩:=hT _ _ kS;obtain⟨_,_,_,_,e2,e3,_⟩:=hT _ _ kp;have e3:=nP e3;subst e3;have hJ:=hs.ev (St.le.refl st) x;rw[hS]at hJ;obtain⟨bb,kl,rfl⟩:=hJ.str;have kP:=Lib.run_convert_string_bytes (P:=cx.P) w src dst e bb u2 t2 e2;have hE:(execOp a.eval o).run cx.P w= .ok (.value (.slice (some ⟨w.heap.size,0,none⟩) bb.size (grownCap w bb.size 0 e))) (Lib.bytesWorld w e bb):=by
    simp[execOp,ho,kl,kP]
   simp only[Oper.wp,hE,Oper.upon];have hV:Below w.heap.size w (Lib.bytesWorld w e bb):=⟨rfl,rfl,rfl,by rw[Lib.bytesWorld_size];omega,λk hk=>Lib.bytesWorld_at_old w e bb k hk⟩
   refine⟨σ,hs.grow (bs:=[]) (v:= .d (.slice 1 (eC bb.data.toList))) hd (λs hl=>rfl) hV (λq0 B hB hl=>by simp[live,find]at hl) (λs b hl=>by simp[live,find]at hl) (λs s' b hl=>by simp[live,find]at hl) (λs b hb=>by simp[find]at hb) ?_⟩;have xm:¬Own E.O (live ([]++st.heap)) σ w.heap.size:=λhO=>by
    have:=hs.pX _ hO;omega
   refine .d _ _ (.slice 1 _ w.heap.size 0 _ _ (λi j=> .int .u8 (bb.data.toList.getD i 0).toNat) (by rw[sI,size_data]) xm (by rw[Lib.bytesWorld_size];omega) (grownCap_ge w bb.size 0 e) (uP _) (λi r j d hi hj=>?_) λi r j d hi hj=>?_)
   .have hZ:=(aB.1 hi).1;rw[sI]at hZ;have ka:j=0:=by
     have:=(uP _ r (aD hi)).1;have h2:=(aB.1 hj).1;omega
    subst ka;have:=Lib.bytesWorld_cell w e bb i (by rw[size_data];exact hZ);rw[<- this]
    congr 2
    omega
   .unfold eC at hi;rw[bc]at hi;cases hc:bb.data.toList[i]? with
    |none=>rw[hc]at hi;cases hi
    |some c =>
     rw[hc]at hi;cases hi;rcases j with _|j
     .cases hj;have:bb.data.toList.getD i 0=c:=by rw[List.getD_eq_getElem?_getD,hc];rfl
      rw[this];exact .int _ _
     .simp at hj
  .cases hC
 .rename_i t x ho;split at hC
  .rename_i kV;cases hC;simp only[xK]at h;split at h
   case h_2=>exact h.elim
   rename_i n ei cells kV hS;split at h
   case h_2=>exact h.elim
   rename_i hM kM;have hM:=bd hM;have kM:=bd kM;subst kM;refine⟨_,_,_,λE a w Q hd ⟨σ,hs⟩=>?_,h⟩;obtain⟨ti,e,ht,ks,kp⟩:=vh kV;obtain⟨_,_,_,_,t2,t3,_⟩:=hT _ _ ht;rw[ks]at t3;obtain rfl:=wh t3;obtain⟨_,r2⟩:=dH (w:=w) hT kp;have hJ:=hs.ev (St.le.refl st) x;rw[hS]at hJ;generalize xr:a.eval x=ux at hJ;cases hJ with|d _ _ hJ=>cases hJ with|ptr _ B off us hO hB kc h1 h2 =>
    have hE:(execOp a.eval o).run cx.P w= .ok (.value (.slice (some ⟨B,off,none⟩) cells.length cells.length)) w:=by
     simp only[execOp,ho,Option.map_none,xr];simp only[Sem.run_bind,Sem.run_pure,Instr.sliceAt,run_underlying t2,Result.andThen_ok,Instr.sureAddr,Instr.sliceBounds,r2,Nat.zero_mul,Nat.sub_zero,de,Nat.add_zero,ite_self]
    simp only[Oper.wp,hE,Oper.upon];refine⟨σ,hs.put hd (.d _ _ ?_)⟩;cases hc:cells with
    |nil=>exact .empty _ _ _
    |cons c0 t0 =>
     rw[<- hc];refine .slice 1 _ B off _ _ (λi j=>us i) (by simp) hO hB (Nat.le_refl _) (λr hr=>?_) (λi r j d hi hj=>?_) λi r j d hi hj=>?_
     .obtain⟨c,hc,rfl⟩:=List.mem_map.1 hr;exact⟨rfl,λd hd=>by rw[List.mem_singleton.1 hd];exact kc c hc⟩
     all_goals
      rw[bc]at hi;cases hci:cells[i]? with
      |none=>rw[hci]at hi;cases hi
      |some c =>
       rw[hci]at hi;cases hi;rcases j with _|j
       .cases hj
        first
         |exact h2 i _ hci
         |(have:=h1 i _ hci;rw[Nat.mul_one,Nat.add_zero];exact this)
       .simp at hj
  .cases hC
 .rename_i t x lo ho;split at hC
  .cases hC;simp only[xK]at h;split at h
   case h_2=>exact h.elim
   rename_i e ei s kd l hN hS kL;split at h
   case h_2=>exact h.elim
   rename_i e' sz rows fl hf;split at h
   case h_2=>exact h.elim
   rename_i hM;obtain rfl:sz=ei.size:=bd hM;exact⟨_,_,_,Rm hT ho hN hS kL hf h.1 h.2.1,h.2.2⟩
  .cases hC
 .rename_i t x lo ho;split at hC
  .cases hC;simp only[xK]at h;split at h
   case h_2=>exact h.elim
   rename_i e ei s kd l hN hS kL;split at h
   case h_2=>exact h.elim
   rename_i e' sz rows fl hf;split at h
   case h_2=>exact h.elim
   rename_i hM;obtain rfl:sz=ei.size:=bd hM;exact⟨_,_,_,Sr hT ho hN hS kL hf h.1 h.2.1,h.2.2⟩
  .cases hC
 .rename_i e x ho;cases hC;simp only[xK]at h;split at h
  case h_2=>exact h.elim
  rename_i d xy kX hc;split at h
  case h_2=>exact h.elim
  rename_i cs hn;obtain rfl:=uv hn;split at h
  case h_2=>exact h.elim
  rename_i kc hf;have xn:cV cx o st (.ptr d 0) [(d,.box cs)]:=cV.new (by rw[ho];rfl) kX λE st' σ a w hle hs=>by
   obtain⟨k1,k2⟩:=jE hc hs.one (hs.ev hle x);refine⟨w.alloc (.cells (a.eval x).cells e),.pointer (some ⟨w.heap.size,0,none⟩),.pointer (some ⟨w.heap.size,0,none⟩),?_,jl _ _,λg hg=>by cases hg;exact Nat.le_refl _,λσ' e1 hF hk xq hl=>⟨?_,?_⟩⟩
   .simp[execOp,ho,Instr.box,newVar,newRow,newObj,Sem.run]
   .exact EH xq hk e1 (hF _ (Nat.le_refl _)) k1 λj c hc=>⟨Ti (aI.1 kc c (aD hc)),k2 j c hc⟩
   .exact .ptr _ _ _ hl e1
  have kD:∀s,live [(d,Blk.box cs)] s-> ¬live st.heap s:=λs hl=>by
   rw[cv.1 hl];unfold live;rw[hf];simp
  exact⟨_,_,_,λE a w Q hd hs=>xn.1 E st a w Q (St.le.refl st) hd kD hs,h⟩
 .cases hC
end
def zy(fre:List Nat)(E:Env):Prop:= ∀q∈fre,E.fix q=none
def aq(cx:Cx)(fre:List Nat)(st st' :St):Prop:= ∀(E:Env) a w,zy fre E->Sim cx E st a w->Sim cx E st' a w
theorem aK.toP{cx:Cx}{fre:List Nat}{st st' :St}(h:aK cx st st'):aq cx fre st st' :=λE a w _ hs=>h E a w hs
theorem aq.trans{cx:Cx}{fre:List Nat}{a b c:St}(h:aq cx fre a b)(k:aq cx fre b c):aq cx fre a c:=λE x w hp hs=>k E x w hp (h E x w hp hs)
def Up(cx:Cx)(nt:Nat)(ops:List Oper)(o:Oper)(k:St->Prop)(st:St):Prop :=
 iW ops st o (match Bv cx st o with
     |some (s,left)=>(match dq nt o.dst with
      |true=>(left=[]->k ⟨bF st.aV o.dst (.tuple [.d (.bool false)]),st.heap⟩)/\ ∀i kk x,left[i]? =some (kk,x)->k ⟨bF st.aV o.dst (Cb kk x),(s,.iter (left.eraseIdx i) (some (kk,x)))::st.heap⟩
      |false=>False)
     |none=>(match xz cx st o with
      |some (d,m)=>(match dq nt o.dst,find st.heap d with
       |true,none=>k ⟨bF st.aV o.dst (.ptr d 0),(d,.iter m none)::st.heap⟩
       |_,_=>False)
      |none=>(match xk cx st o with
       |some (kk,x)=>(match dq nt o.dst with
        |true=>k ⟨bF st.aV o.dst (.tuple [(wc kk).dX,x.dX]),st.heap⟩
        |false=>False)
       |none=>(match zW cx st o with
        |some r=>(match dq nt o.dst with
         |true=>r.aW.length=r.rows.length/\k ⟨bF st.aV o.dst (.d (.int .i64 r.rows.length)),(r.s,.row r.e r.sz r.aW r.fl)::st.heap⟩
         |false=>False)
        |none=>(match AL cx st o with
         |some (g,as)=>(match dq nt o.dst with
          |true=> ∃(ι:Type) (res:ι->AV) (bs:ι->List (Nat×Blk)),(FnC cx g as res bs/\ ∀i,uj (bs i)=true/\qE st.heap (bs i)=true)/\ ∀i,k (st.put o.dst (res i) (bs i))
          |false=>False)
         |none=>Bk cx nt o st λst' =>k st'))))) (match dq nt o.dst with|true=>k (st.put o.dst (.tuple []) [])|false=>False)
theorem Th(cx:Cx)(nt:Nat)(ops:List Oper)(o:Oper)(k:St->Prop)(st:St):Up cx nt ops o k st=seqB cx nt ops [o] k st:=rfl
def LA(cx:Cx)(pv:Int->Value)(nt:Nat)(Qp:St->Prop)(ops:List Oper)(o:Oper)(ih:(St->Prop)->St->Prop)(k:St->Prop)(st:St):Prop :=
 match pOf cx st o with
  | some (f, as) => iW ops st o (match dq nt o.dst with
      |true=>AK cx pv st f as Qp λv st1=>ih k ⟨bF st1.aV o.dst v,st1.heap⟩
      |false=>False) (match dq nt o.dst with|true=>ih k (st.put o.dst (.tuple []) [])|false=>False)
  |none=>(match xOf cx o with
   |some x=>iW ops st o (match dq nt o.dst with
    |true=>xK cx st o.dst x λv sl hp=>ih k ⟨bF sl o.dst v,hp⟩
    |false=>False) (match dq nt o.dst with|true=>ih k (st.put o.dst (.tuple []) [])|false=>False)
   |none=>Up cx nt ops o (λst1=>ih k st1) st)
noncomputable def Ly (cx:Cx) (pv:Int->Value) (nt:Nat) (Qp:St->Prop) (ops:List Oper) (l:List Oper):(St->Prop)->St->Prop :=
 List.rec (motive:=λ_=>(St->Prop)->St->Prop) (λk st=>k st) (λo _ ih k st=>LA cx pv nt Qp ops o ih k st) l
theorem Oh(cx:Cx)(pv:Int->Value)(nt:Nat)(Qp:St->Prop)(ops:List Oper)(o:Oper)(rest:List Oper)(k:St->Prop)(st:St):Ly cx pv nt Qp ops (o::rest) k st=LA cx pv nt Qp ops o (Ly cx pv nt Qp ops rest) k st:=rfl
theorem Oper.RA{P:Program}{o:Oper}{a:Act}{w:World}{K:Act->World->Prop}{Q Q' :Exit->Act->World->Prop}(h:∀e a w,e≠Exit.normal->Q e a w->Q' e a w)
 (hh:o.wp P a w K Q):o.wp P a w K Q' :=by
 unfold Oper.wp at *
 generalize (execOp a.eval o).run P w=r at *
 cases r with
 |ok n w' =>
  cases n <;> simp only[Oper.upon]at hh ⊢ <;>
   first
    |exact hh
    | exact Calls.mono hh (fun e xD he => by
        cases e
        .exact he
        .exact h _ _ _ (λe=>by cases e) he
        .obtain⟨a,w,hq⟩:=he;exact⟨a,w,h _ _ _ (λe=>by cases e) hq⟩)
    |exact Rows.mono hh (λ_ _ he=>he)
 |halt x w' =>cases x <;> simp only[Oper.upon]at hh ⊢ <;> first|exact h _ _ _ (λe=>by cases e) hh|exact hh
theorem Md{P:Program}{ops:Array Oper}{Q:Exit->Act->World->Prop}{o:Oper}{rest:List Oper}{a:Act}{w:World}
 (h:wpList P ops (λe a w=>match e with| .normal=>wpList P ops Q rest a w|e=>Q e a w) [o] a w):wpList P ops Q (o::rest) a w:=by
 unfold wpList at h ⊢;split at h
 .rename_i hw;rw[if_pos hw];rcases h with h|⟨h1,a,w,h2⟩
  .refine .inl ?_;refine Oper.RA (λe a w ku hq=>?_) (Oper.wp_mono (λa w hk=>?_) h)
   .cases e <;> first|exact absurd rfl ku|exact hq
   .unfold wpList at hk;exact hk
  .exact .inr ⟨h1,a,w,h2⟩
 .rename_i hw;rw[if_neg hw];unfold wpList at h;exact h
section
variable {cx:Cx} {pv:Int->Value} {nt:Nat}
theorem qu(hT:bD cx){ops:Array Oper}{E:Env}(hn:E.nt=nt){Qp:St->Prop}{Q:Exit->Act->World->Prop}:∀(l:List Oper) {k:St->Prop} {st:St} {a:Act} {w:World},Ly cx pv nt Qp ops.toList l k st->Sim cx E st a w ->
 (∀st' a' w',k st' ->Sim cx E st' a' w' ->Q .normal a' w')->(∀st1 a' w' (e:Int),e≠0->Qp st1->Sim cx E st1 a' w' ->Q (.panic [{v:=pv e,recovered:=false}]) a' w')->wpList cx.P ops Q l a w
 |[],k,st,a,w,h,hs,hQ,_=>hQ st a w h hs
 |o::rest,k,st,a,w,h,hs,hQ,hQp=>by
  rw[Oh]at h;unfold LA at h;split at h
  .rename_i f as hp;unfold wpList;rcases nh h hs with ⟨hw,h⟩|⟨hw,h⟩
   .rw[if_pos hw];split at h
    .rename_i hd;obtain⟨c,x,ho,hc,rfl,has⟩:=NX hp;refine .inl (Gi ho hc has h (by rw[hn];exact dy hd) hs (λv st1 a' w' hk hA =>?_) λh1 w' e he hq hA =>hQp _ _ _ e he hq hA);exact qu hT hn rest hk hA hQ hQp
    .exact h.elim
   .rw[if_neg (by simp[hw])];split at h
    .rename_i hd;exact qu hT hn rest h (gA (by rw[hn];exact dy hd) hs) hQ hQp
    .exact h.elim
  .split at h
   .rename_i x hx;unfold wpList;rcases nh h hs with ⟨hw,h⟩|⟨hw,h⟩
    .rw[if_pos hw];split at h
     .rename_i hd;obtain⟨v,sl,hp,h1,h2⟩:=Vs hT hx h;exact .inl (Oper.wp_mono (λa' w' hA =>qu hT hn rest h2 hA hQ hQp) (h1 E a w Q (by rw[hn];exact dy hd) hs))
     .exact h.elim
    .rw[if_neg (by simp[hw])];split at h
     .rename_i hd;exact qu hT hn rest h (gA (by rw[hn];exact dy hd) hs) hQ hQp
     .exact h.elim
   rw[Th]at h;refine Md (jW hT hn [o] h hs λst' a' w' hk hA =>?_);exact qu hT hn rest hk hA hQ hQp
end
noncomputable def Lo (cx:Cx) (pv:Int->Value) (nt:Nat) (fr:List Nat) (Qp:St->Prop) (ops:Array Oper) (draw:Bool) (k:St->Prop) (st:St):Prop :=
 match dg 33333 fr,draw with
 |true,false=>Ly cx pv nt Qp ops.toList ops.toList k (st.bP fr)
 |true,true=>mj ops.toList=true/\kO cx pv Qp nt ops.toList k (ops.size+1) [] [] (st.bP fr)
 |false,_=>zj cx nt fr ops draw k st
def TD(cx:Cx)(nt:Nat)(id:Nat)(ops:Array Oper)(draw:Bool)(st st1:St):Prop :=
 ∀(E:Env) (a:Act) (w:World) (R:Exit->Act->World->Prop),E.nt=nt->Sim cx E st a w->(∀a' w',Sim cx E st1 a' w' ->R .normal a' w')->(Code.region id ops draw).wp cx.P R a w
noncomputable def vcp (cx:Cx) (fre:List Nat) (pv:Int->Value) (nt:Nat) (fz:Nat->List Nat) (Qp:St->Prop):Code->(Ex->St->Prop)->St->Prop
 | .skip,Q,st=>Q .normal st
 | .label _,Q,st=>Q .normal st
 | .seq a b,Q,st=>vcp cx fre pv nt fz Qp a (λe s=>match e with| .normal=>vcp cx fre pv nt fz Qp b Q s| .exit id=>Q (.exit id) s| .ret=>Q .ret s) st
 | .cond c a b,Q,st=>(match st.ev cx c with
  | .d (.bool t)=>rq t (vcp cx fre pv nt fz Qp a Q st) (vcp cx fre pv nt fz Qp b Q st)
  | .maybe p=>(p=true->vcp cx fre pv nt fz Qp a Q st)/\vcp cx fre pv nt fz Qp b Q st
  |_=>False)
 | .block id body,Q,st=>vcp cx fre pv nt fz Qp body (λe s=>match e with| .normal=>Q .normal s| .exit j=>(match Nat.beq j id with|true=>Q .normal s|false=>Q (.exit j) s)| .ret=>Q .ret s) st
 | .loop body, Q, st => ∃ (α : Type) (f : α -> St) (J : α -> Prop) (μ : α -> Nat), (∃ x, J x /\ aq cx fre st (f x)) /\
     ∀x,J x->vcp cx fre pv nt fz Qp body (λe s=>match e with| .normal=> ∃y,J y/\μ y<μ x/\aq cx fre s (f y)| .exit j=>Q (.exit j) s| .ret=>Q .ret s) (f x)
 | .exit id,Q,st=>Q (.exit id) st
 | .ret,Q,st=>Q .ret st
 | .region id ops draw,Q,st=>(match dg 77777 (fz id)with
  |true=> ∃st1,TD cx nt id ops draw st st1/\Q .normal st1
  |false=>(match dg 55555 (fz id)with
   |true=> ∃st',aq cx fre st st' /\Lo cx pv nt (fz id) Qp ops draw (Q .normal) st'
   |false=>Lo cx pv nt (fz id) Qp ops draw (Q .normal) st))
 | .scope c,Q,st=>vcp cx fre pv nt fz Qp c Q st
 |_,_,_=>False
theorem Tl{cx:Cx}{nt:Nat}{fr:List Nat}(hT:bD cx)(hm:cx.P.follows .mixedOrders=true){E:Env}(hn:E.nt=nt){id:Nat}{ops:Array Oper}{draw:Bool}{k:St->Prop}{st:St}{a:Act}{w:World}{R:Exit->Act->World->Prop}
 (h:zj cx nt fr ops draw k st) (hs:Sim cx E st a w) (hR:∀st' a' w',k st' ->Sim cx E st' a' w' ->R .normal a' w'):(Code.region id ops draw).wp cx.P R a w:=by
 unfold zj at h;cases draw with
 |false =>
  simp only at h;cases hb:dg 88888 fr with
  |true=>rw[hb]at h;exact wp_region_list (jW hT hn ops.toList h (hs.bP _) hR)
  |false=>rw[hb]at h;exact wp_region_list (qt hT hn ops.toList h (hs.bP _) hR)
 |true =>
  simp only at h;cases hany:dg 99999 fr with
  |true=>rw[hany]at h;exact IN hT hm hn h (hs.bP _) hR
  |false =>
   rw[hany]at h;simp only at h;cases hv:dg 66666 fr with
   |true=>rw[hv]at h;exact GQ hT hm hn h.1 h.2 (hs.bP _) hR
   |false=>rw[hv]at h;exact Fe hT hm hn h (hs.bP _) hR
theorem Bq{cx:Cx}{fre:List Nat}{pv:Int->Value}{nt:Nat}{fz:Nat->List Nat}{Qp:St->Prop}(hT:bD cx)(hm:cx.P.follows .mixedOrders=true){E:Env}(hn:E.nt=nt)(hD:zy fre E):∀(c:Code) {Q:Ex->St->Prop} {st:St} {a:Act} {w:World} {R:Exit->Act->World->Prop},vcp cx fre pv nt fz Qp c Q st->Sim cx E st a w ->
 (∀e st' a' w',Q e st' ->Sim cx E st' a' w' ->R e.out a' w')->(∀st1 a' w' (e:Int),e≠0->Qp st1->Sim cx E st1 a' w' ->R (.panic [{v:=pv e,recovered:=false}]) a' w')->c.wp cx.P R a w:=by
 intro c;induction c with
 |skip=>intro Q st a w R h hs hR hP;exact wp_skip (hR .normal st a w h hs)
 |label l=>intro Q st a w R h hs hR hP;exact wp_label (hR .normal st a w h hs)
 |exit id=>intro Q st a w R h hs hR hP;exact wp_exit (hR (.exit id) st a w h hs)
 |ret=>intro Q st a w R h hs hR hP;exact wp_ret (hR .ret st a w h hs)
 |seq x y kG kH =>
  intro Q st a w R h hs hR hP;refine wp_seq (kG (R:=Exit.then (y.wp cx.P R) R) h hs (λe st' a' w' hq hA =>?_) λst1 a' w' e he hq hA =>hP st1 a' w' e he hq hA);cases e with
  |normal=>exact kH hq hA hR hP
  |exit id=>exact hR (.exit id) st' a' w' hq hA
  |ret=>exact hR .ret st' a' w' hq hA
 |cond c x y kG kH =>
  intro Q st a w R h hs hR hP;simp only[vcp]at h;split at h
  .rename_i t ht;have hr:a.eval c= .bool t:=by
    obtain⟨σ,hs⟩:=hs;have:=hs.ev (St.le.refl st) c;rw[ht]at this;exact this.bool
   cases t with
   |true=>exact wp_cond_true hr (kG h hs hR hP)
   |false=>exact wp_cond_false hr (kH h hs hR hP)
  .rename_i p ht;have hr:∃t,a.eval c= .bool t/\(t=true->p=true):=by
    obtain⟨σ,hs⟩:=hs;have:=hs.ev (St.le.refl st) c;rw[ht]at this;generalize a.eval c=u at this;cases this with|maybe _ b hb=>exact⟨b,rfl,hb⟩
   obtain⟨t,hr,hp⟩:=hr;cases t with
   |true=>exact wp_cond_true hr (kG (h.1 (hp rfl)) hs hR hP)
   |false=>exact wp_cond_false hr (kH h.2 hs hR hP)
  .exact h.elim
 |block id body ih =>
  intro Q st a w R h hs hR hP;refine wp_block (ih (R:=Exit.inBlock id R) h hs (λe st' a' w' hq hA =>?_) λst1 a' w' e he hq hA =>hP st1 a' w' e he hq hA);cases e with
  |normal=>exact hR .normal st' a' w' hq hA
  |exit j =>
   dsimp only at hq;split at hq
   .rename_i hj;have hj:=bd hj;simp only[Ex.out,Exit.inBlock,hj,if_true];exact hR .normal st' a' w' hq hA
   .rename_i hj;have hj:j≠id:=λe=>by subst e;simp at hj
    simp only[Ex.out,Exit.inBlock,hj,if_false];exact hR (.exit j) st' a' w' hq hA
  |ret=>exact hR .ret st' a' w' hq hA
 |loop body ih =>
  intro Q st a w R h hs hR hP;obtain⟨α,f,J,μ,⟨x,hx,hw⟩,kf⟩:=h;refine wp_loop_ghost (λn a w=> ∃y,J y/\μ y=n/\Sim cx E (f y) a w) (μ x) ⟨x,hx,rfl,hw E a w hD hs⟩ ?_;rintro n a w ⟨y,hy,rfl,hA⟩;refine ih (kf y hy) hA (λe st' a' w' hq kh =>?_) λst1 a' w' e he hq hA =>hP st1 a' w' e he hq hA
  cases e with
  |normal =>
   obtain⟨z,hz,hZ,xt⟩:=hq;exact⟨μ z,hZ,z,hz,rfl,xt E a' w' hD kh⟩
  |exit j=>exact hR (.exit j) st' a' w' hq kh
  |ret=>exact hR .ret st' a' w' hq kh
 |region id ops draw =>
  intro Q st a w R h hs hR hP;simp only[vcp]at h;have key:∀{st:St},Lo cx pv nt (fz id) Qp ops draw (Q .normal) st->Sim cx E st a w->(Code.region id ops draw).wp cx.P R a w:=by
   intro st h hs;unfold Lo at h;split at h
   .exact wp_region_list (qu hT hn ops.toList h (hs.bP _) (λst' a' w' hk hA =>hR .normal st' a' w' hk hA) hP)
   .exact Rv hT hm hn h.1 h.2 (hs.bP _) (λst' a' w' hk hA =>hR .normal st' a' w' hk hA) hP
   .exact Tl hT hm hn h hs λst' a' w' hk hA =>hR .normal st' a' w' hk hA
  cases hz:dg 77777 (fz id)with
  |true=>rw[hz]at h;obtain⟨st1,h1,h2⟩:=h;exact h1 E a w R hn hs λa' w' hA =>hR .normal st1 a' w' h2 hA
  |false =>
   rw[hz]at h;simp only at h;cases hw:dg 55555 (fz id)with
   |true=>rw[hw]at h;obtain⟨st',h1,h2⟩:=h;exact key h2 (h1 E a w hD hs)
   |false=>rw[hw]at h;exact key h hs
 |scope c ih =>
  intro Q st a w R h hs hR hP;refine wp_scope_straight (ih (R:=Exit.noGoto R) h hs (λe st' a' w' hq hA =>?_) λst1 a' w' e he hq hA =>hP st1 a' w' e he hq hA);cases e <;> exact hR _ st' a' w' hq hA
 |_=>intro Q st a w R h;exact h.elim
theorem Ao{cx:Cx}{st:St}{E:Env}{σ:Nat->Value}{a:Act}{w:World}(hs:bN cx E st σ a w){bs:List (Nat×Blk)}(h2:pU st bs bs):Holds w E.F E.O bs σ:=by
 obtain⟨σ',hA⟩:∃σ',σ' =σ/\bN cx E ⟨[],bs⟩ σ' a w:=by
  have hL:∀s,live bs s->live st.heap s:=λs hl=>by
   obtain⟨b,hb⟩:=aH.1 hl;exact aH.2 ⟨b,(iw h2 s b hb).1⟩
  refine⟨σ,rfl,?_⟩;have hk:bw w w (Own E.O (live st.heap) σ) (Own E.O (live bs) σ):=bw.less λb hb=>by
   rcases hb with hb|⟨s,hs,e⟩
   .exact .inl hb
   .exact .inr ⟨s,hL s hs,e⟩
  refine⟨hs.frame,hs.new,hs.apart,hs.defers,hs.nt,λt=> .undef _,⟨λs b hb=>?_,λs s' b l l' e e' =>hs.holds.inj s s' b (hL s l) (hL s' l') e e'⟩,hs.fI,hs.dQ,λq0 B hB=>⟨(hs.fix q0 B hB).1,λh=>(hs.fix q0 B hB).2 (hL _ h)⟩⟩;obtain⟨e1,e2⟩:=iw h2 s b hb;have hold:=hs.holds.blk s b e1;cases b with
  |box cells =>
   obtain⟨g,cur,t,p1,p2,p3,p4,p5⟩:=hold;exact⟨g,cur,t,p1,p2,p3,p4,λj c hj=>⟨(p5 j c hj).1,kF hL (p5 j c hj).2 (aI.1 e2 c (aD hj))⟩⟩
  |row e size rows fl =>
   obtain⟨xs,p1,p2,p3,p4,p5⟩:=hold;refine⟨xs,p1,p2,p3,p4,λi r j d hi hj=>?_⟩;obtain⟨u,hu,hd⟩:=p5 i r j d hi hj;exact⟨u,hu,hd.mono hk⟩
  |smap m =>
   obtain⟨g,es,cl,p1,p2,p3,p4,p5⟩:=hold;refine⟨g,es,cl,p1,p2,p3,p4,λj k v hj=>?_⟩;obtain⟨e,he,q1,q2⟩:=p5 j k v hj;exact⟨e,he,q1.mono hk,q2.mono hk⟩
  |cY m=>obtain⟨g,es,cl,p1,p2,p3,p4⟩:=hold;exact⟨g,es,cl,p1,p2,p3,p4.mono λ_ _ h=>h.mono hk⟩
  |eF e size rows =>
   obtain⟨g,cur,t,p1,p2,p3,p4,p5⟩:=hold;exact⟨g,cur,t,p1,p2,p3,p4,λi r j c hi hj=>⟨(p5 i r j c hi hj).1,kF hL (p5 i r j c hi hj).2 (aI.1 (aI.1 e2 r (aD hi)) c (aD hj))⟩⟩
  |tail e size rows=>exact⟨hold.1.mono (λ_ _=>rfl) λ_ _ hr=>hr.mono hk,hold.2⟩
  |iter left cur=>exact⟨hold.1.mono (λ_ _=>rfl) hk,hold.2⟩
  |dJ m =>
   obtain⟨g,es,cl,p1,p2,p3,p4,p5⟩:=hold;exact⟨g,es,cl,p1,p2,p3,p4,λj k v hj=>by obtain⟨e,he,q1,q2⟩:=p5 j k v hj;exact⟨e,he,q1,kF hL q2 (aI.1 e2 _ (aD hj))⟩⟩
 obtain⟨rfl,hA⟩:=hA;exact hA.holds
def dn1:AV->AV
 | .nil sz=> .d (.slice sz [])
 |v=>v
def dn2:AV->AV
 | .agg cs=> .agg (cs.map dn1)
 |v=>dn1 v
def dn3:AV->AV
 | .tuple vs=> .tuple (vs.map dn2)
 |v=>dn2 v
section
variable {w:World} {O L:Nat->Prop} {σ:Nat->Value}
theorem Jc{c:AV}{v:Value}(h:aG w O L σ c v):aG w O L σ (dn1 c) v:=by
 cases c <;> first|exact h|(cases h;exact .d _ _ (.empty _ _ _))
theorem xg{c:AV}{v:Value}(h:aG w O L σ c v):aG w O L σ (dn2 c) v:=by
 cases c with
 |agg cs=>cases h with|agg _ vs hl hh=>exact .agg _ _ (by simpa using hl) (fH (λc v=>Jc) hh)
 |_=>exact Jc h
theorem Jd{c:AV}{v:Value}(h:aG w O L σ c v):aG w O L σ (dn3 c) v:=by
 cases c with
 |tuple cs=>cases h with|tuple _ vs hl hh=>exact .tuple _ _ (by simpa using hl) (fH (λc v=>xg) hh)
 |_=>exact xg h
end
def wA(cx:Cx)(fre:List Nat)(rs:List ResultVar)(out:Option (AV×List (Nat×Blk)))(st:St):Prop:=match out with
 |some (x,h')=>(∃sl,aq cx fre st ⟨sl,h'⟩/\mF cx ⟨sl,h'⟩ rs=some x)\/(∃st',aq cx fre st st' /\mF cx st' rs=some x/\rS h' x=true/\pU st' h' h')\/ ∃st' v0,aq cx fre st st' /\mF cx st' rs=some v0/\dn3 v0=x/\rS h' x=true/\pU st' h' h'
 |none=>False
def nI(cx:Cx)(fre:List Nat)(rs:List ResultVar)(out:Option (AV×List (Nat×Blk))):Ex->St->Prop
 | .normal,st=>wA cx fre rs out st
 | .ret,st=>wA cx fre rs out st
 | .exit _,_=>False
theorem bt{cx:Cx}{pv:Int->Value}(fre:List Nat)(fz:Nat->List Nat)(hT:bD cx)(hm:cx.P.follows .mixedOrders=true){f:FuncId}{fn:Func}{c:Code}{args:List AV}{h0:List (Nat×Blk)}{out:Option (AV×List (Nat×Blk))}(hf:cx.P.funcs[f]? =some fn)(h:vcp cx fre pv fn.ntmps fz (λ_=>out=none) c (nI cx fre fn.results.toList out) ⟨jY 0 args,h0⟩)(kt:(fn.name== "runtime.NumGoroutine")=false:=by kernel_rfl)(hb:fn.body=some c:=by exact rfl)(kW:args.length<=fn.ntmps:=by exact bB rfl)(kN:fn.ntmps<=100000:=by exact bB rfl)(kK:fre.all (λq=> !eJ (cS h0) q)=true:=by exact rfl):FnP cx pv f args h0 out:=by
 refine⟨⟨fn,hf,kt,by rw[hb];rfl⟩,λO w σ vs hO hG kA xb kr kz ke=>?_⟩;refine calls_of_wp hf hb ?_
 let E:Env:=⟨λb=>dM h0 σ b\/w.heap.size<=b,O,w,fn.ntmps,λq=>if q∈cS h0 then(match σ q with| .pointer (some ⟨B,0,none⟩)=>some B|_=>none)else none,[]⟩
 have kq:∀q B,E.fix q=some B->q∈cS h0/\σ q= .pointer (some ⟨B,0,none⟩):=by
  intro q B hq;have hq:(if q∈cS h0 then(match σ q with| .pointer (some ⟨B,0,none⟩)=>some B|_=>none)else none)=some B:=hq;split at hq
  .rename_i hm;split at hq
   .rename_i B' e;cases hq;exact⟨hm,e⟩
   .cases hq
  .cases hq
 have hs:Sim cx E ⟨jY 0 args,h0⟩ {tmps:=vs++Array.replicate (fn.ntmps-vs.size) Go.undef,defers:=[]} w:=by
  refine⟨σ,⟨rfl,rfl,rfl,Nat.le_refl _,λ_ _=>rfl⟩,λb hb=> .inr hb,λb hb hF=>?_,rfl,?_,λt=>?_,⟨λs b hs=>(kr.blk s b hs).inF λg hg=> .inl ⟨s,aH.2 ⟨b,hs⟩,hg⟩,kr.inj⟩,hG,λg cells hg=>⟨λhF=>?_,(kA g cells hg).1⟩,λq0 B hB=>?_⟩
  .rcases hF with hF|hF
   .exact xb b hb hF
   .have:=hO b hb;omega
  .show(vs++Array.replicate _ Go.undef).size=fn.ntmps
   simp;omega
  .have hg:St.get ⟨jY 0 args,h0⟩ t=match args[t]? with|some v=>v|none=> .undef:=by
    unfold St.get;rw[oo,if_pos (Nat.zero_le _),Nat.sub_zero];cases args[t]? <;> rfl
   rw[hg];cases ht:args[t]? with
   |none=>exact .undef _
   |some x =>
    have hZ:t<vs.size:=by rw[kz];exact(aB.1 ht).1
    have:(vs++Array.replicate (fn.ntmps-vs.size) Go.undef).getD t Go.undef=vs.getD t Go.undef:=by simp[Array.getElem?_append,hZ]
    rw[this];exact ke t x ht
  .rcases hF with hF|hF
   .exact(kA g cells hg).2 hF
   .have:=(hG g cells hg).1;omega
  .obtain⟨h1,h2⟩:=kq q0 B hB;exact⟨⟨kN,(jQ h1).1⟩,λ_=>h2⟩
 have hY:∀{l:List Nat} {i:Nat},i∈l->eJ l i=true:=by
  intro l;induction l with
  |nil=>intro i h;cases h
  |cons x t ih =>
   intro i h;unfold eJ;split
   .rfl
   .rename_i hx;rcases List.mem_cons.1 h with rfl|h
    .simp at hx
    .exact ih h
 have hD:zy fre E:=λq hq=>by
  have h1:=aI.1 kK q hq;show(if q∈cS h0 then(match σ q with| .pointer (some ⟨B,0,none⟩)=>some B|_=>none)else none)=none
  refine if_neg λhm=>?_
  rw[hY hm]at h1;cases h1
 refine Bq hT hm (E:=E) rfl hD c h hs (λex st' a' w' hq hA =>?_) λst1 a' w' e he hq hA =>?_
 .have key:∀st',wA cx fre fn.results.toList out st' ->Sim cx E st' a' w' ->a'.defers=[]/\ ∃u,(results fn a'.tmps).run cx.P w' = .ok u w' /\sO (λb=>dM h0 σ b\/w.heap.size<=b) w w' /\TC pv (λb=>dM h0 σ b\/w.heap.size<=b) O h0 σ w' (.returned u) out:=by
   intro st2 hK hM;unfold wA at hK;split at hK
   .rename_i x h';rcases hK with hK|⟨st3,hw,hr,hx,hkp⟩|⟨st3,v0,hw,hr,rfl,hx,hkp⟩
    .obtain⟨sl,hw,hr⟩:=hK;obtain⟨τ',hI⟩:=hw E a' w' hD hM;obtain⟨u,hu,ky⟩:=oH hT hI hr;refine⟨hI.defers,u,hu,hI.frame,u,τ',rfl,hI.holds,λs hs hl=>?_,ky⟩;obtain⟨_,cells,hc⟩:=jQ hs;obtain⟨B,cur,t,e1,_⟩:=kr.blk s _ hc;have:E.fix s=some B:=by
      show(if s∈cS h0 then(match σ s with| .pointer (some ⟨B,0,none⟩)=>some B|_=>none)else none)=some B
      rw[if_pos hs,e1];rfl
     rw[(hI.fix s B this).2 hl,e1]
    .obtain⟨τ',hI⟩:=hw E a' w' hD hM;obtain⟨u,hu,ky⟩:=oH hT hI hr;refine⟨hI.defers,u,hu,hI.frame,u,τ',rfl,Ao hI hkp,λs hs hl=>?_,wz (λs hl=>?_) ky hx⟩
     .obtain⟨_,cells,hc⟩:=jQ hs;obtain⟨B,cur,t,e1,_⟩:=kr.blk s _ hc;have:E.fix s=some B:=by
       show(if s∈cS h0 then(match σ s with| .pointer (some ⟨B,0,none⟩)=>some B|_=>none)else none)=some B
       rw[if_pos hs,e1];rfl
      obtain⟨b,hb⟩:=aH.1 hl;rw[(hI.fix s B this).2 (aH.2 ⟨b,(iw hkp s b hb).1⟩),e1]
     .obtain⟨b,hb⟩:=aH.1 hl;exact aH.2 ⟨b,(iw hkp s b hb).1⟩
    .obtain⟨τ',hI⟩:=hw E a' w' hD hM;obtain⟨u,hu,ky⟩:=oH hT hI hr;refine⟨hI.defers,u,hu,hI.frame,u,τ',rfl,Ao hI hkp,λs hs hl=>?_,wz (λs hl=>?_) (Jd ky) hx⟩
     .obtain⟨_,cells,hc⟩:=jQ hs;obtain⟨B,cur,t,e1,_⟩:=kr.blk s _ hc;have:E.fix s=some B:=by
       show(if s∈cS h0 then(match σ s with| .pointer (some ⟨B,0,none⟩)=>some B|_=>none)else none)=some B
       rw[if_pos hs,e1];rfl
      obtain⟨b,hb⟩:=aH.1 hl;rw[(hI.fix s B this).2 (aH.2 ⟨b,(iw hkp s b hb).1⟩),e1]
     .obtain⟨b,hb⟩:=aH.1 hl;exact aH.2 ⟨b,(iw hkp s b hb).1⟩
   .exact hK.elim
  cases ex with
  |normal=>exact key st' hq hA
  |ret=>exact key st' hq hA
  |exit id=>exact hq.elim
 .subst hq;obtain⟨τ',hI⟩:=hA;exact⟨hI.defers,hI.frame,e,he,rfl⟩
def eN(s t x:Nat):Nat:=match Nat.beq x s with|true=>t|false=>x
theorem rL(s t:Nat):eN s t s=t:=by simp[eN]
theorem tn{s t x:Nat}(h:x≠s):eN s t x=x:=by
 have:Nat.beq x s=false:=by rw[<- Bool.not_eq_true];exact λe=>h (bd e)
 simp[eN,this]
def Ax(s t:Nat):AV->AV
 | .ptr x off=> .ptr (eN s t x) off
 | .own x=> .own (eN s t x)
 | .dm x a b c=> .dm (eN s t x) a b c
 | .tl x a b=> .tl (eN s t x) a b
 | .omap x=> .omap (eN s t x)
 | .d y=> .d y
 | .nil z=> .nil z
 | .maybe p=> .maybe p
 |_=> .undef
def rN(s t:Nat):AV->AV
 | .agg cs=> .agg (cs.map (Ax s t))
 | .fn f a b=> .fn f (a.map (Ax s t)) (b.map (Ax s t))
 |v=>Ax s t v
def QB(s t:Nat):AV->AV
 | .tuple vs=> .tuple (vs.map (rN s t))
 |v=>rN s t v
def wq(s t:Nat):Blk->Blk
 | .box cells=> .box (cells.map (rN s t))
 | .eF e z rows=> .eF e z (rows.map λr=>r.map (rN s t))
 | .dJ m=> .dJ (m.map λp=>(p.1,rN s t p.2))
 |b=>b
def St.name(st:St)(s t:Nat):St:=⟨st.aV.map λp=>(p.1,QB s t p.2),st.heap.map λp=>(eN s t p.1,wq s t p.2)⟩
theorem Fm{s t:Nat}:∀{hp:List (Nat×Blk)},(∀p∈hp,p.1≠t)->(∀(x:Nat) (b:Blk),find hp x=some b->find (hp.map λp=>(eN s t p.1,wq s t p.2)) (eN s t x)=some (wq s t b)) /\
 (∀(q:Nat) (b' :Blk),find (hp.map λp=>(eN s t p.1,wq s t p.2)) q=some b' -> ∃x b,find hp x=some b/\q=eN s t x/\b' =wq s t b)
 |[],_=>⟨λ_ _ h=>(by cases h),λ_ _ h=>(by cases h)⟩
 |(k,y)::r,hall=>by
  obtain⟨i1,i2⟩:=Fm (s:=s) (t:=t) (hp:=r) λp hp=>hall p (bC _ hp)
  have hk:k≠t:=hall (k,y) (List.mem_cons_self ..);have ku:∀{hp:List (Nat×Blk)} {x b},find hp x=some b->(∀p∈hp,p.1≠t)->x≠t:=by
   intro hp;induction hp with
   |nil=>intro x b h;cases h
   |cons p r ih =>
    intro x b h ha;by_cases e:p.1=x
    .exact e ▸ ha p (List.mem_cons_self ..)
    .rw[show p=(p.1,p.2)from rfl,bl _ _ e]at h;exact ih h λp hp=>ha p (bC _ hp)
  have inj:∀{x y:Nat},x≠t->y≠t->eN s t x=eN s t y->x=y:=λ{x y} hx hy e=>by
   by_cases e1:x=s
   .subst e1;rw[rL]at e;by_cases e2:y=x
    .exact e2.symm
    .rw[tn e2]at e;exact absurd e.symm hy
   .rw[tn e1]at e;by_cases e2:y=s
    .subst e2;rw[rL]at e;exact absurd e hx
    .rw[tn e2]at e;exact e
  refine⟨λx b h=>?_,λq b' h=>?_⟩
  .by_cases e:k=x
   .subst e;rw[bk]at h;cases h;exact bk ..
   .have hs:=ku h hall;rw[bl _ _ e]at h;show find ((eN s t k,wq s t y)::_) (eN s t x)=_
    rw[bl _ _ λe2=>e (inj hk hs e2)];exact i1 x b h
  .have h:find ((eN s t k,wq s t y)::(r.map λp=>(eN s t p.1,wq s t p.2))) q=some b' :=h;by_cases e:eN s t k=q
   .subst e;rw[bk]at h;cases h;exact⟨k,y,bk .., rfl,rfl⟩
   .rw[bl _ _ e]at h;obtain⟨x,b,h1,h2,h3⟩:=i2 q b' h;refine⟨x,b,?_,h2,h3⟩;rw[bl _ _ λe2=>e (by rw[e2,h2])];exact h1
section
variable {w:World} {O L L' :Nat->Prop} {σ σ' :Nat->Value} {s t:Nat}
theorem rM(hk:bw w w (Own O L σ) (Own O L' σ'))(hL:∀x,L x->L' (eN s t x)/\σ' (eN s t x)=σ x){c:AV}{v:Value}(h:aG w O L σ c v):aG w O L' σ' (Ax s t c) v:=by
 cases h with
 |undef=>exact .undef _
 |d y v h=>exact .d _ _ (h.mono hk)
 |nil=>exact .nil _
 |maybe p b h=>exact .maybe p b h
 |ptr x off b hl h=>exact .ptr _ _ b (hL x hl).1 ((hL x hl).2.trans h)
 |own x hl=>rw[<- (hL x hl).2];exact .own _ (hL x hl).1
 |dm x size i off b n cap o0 hl h=>exact .dm _ _ _ _ b n cap o0 (hL x hl).1 ((hL x hl).2.trans h)
 |tl x size i b n cap o0 hl h=>exact .tl _ _ _ b n cap o0 (hL x hl).1 ((hL x hl).2.trans h)
 |omap x hl=>rw[<- (hL x hl).2];exact .omap _ (hL x hl).1
 |agg=>exact .undef _
 |tuple=>exact .undef _
 |fn=>exact .undef _
theorem pj(hk:bw w w (Own O L σ) (Own O L' σ'))(hL:∀x,L x->L' (eN s t x)/\σ' (eN s t x)=σ x){c:AV}{v:Value}(h:aG w O L σ c v):aG w O L' σ' (rN s t c) v:=by
 cases c with
 |agg cs=>cases h with|agg _ vs hl hh=>exact .agg _ _ (by simpa using hl) (fH (λc v=>rM hk hL) hh)
 |fn f a b=>cases h with|fn _ _ _ xs vs kT hl h1 h2=>exact .fn _ _ _ _ _ (by simpa using kT) (by simpa using hl) (fH (λc v=>rM hk hL) h1) (fH (λc v=>rM hk hL) h2)
 |_=>exact rM hk hL h
theorem QC(hk:bw w w (Own O L σ) (Own O L' σ'))(hL:∀x,L x->L' (eN s t x)/\σ' (eN s t x)=σ x){c:AV}{v:Value}(h:aG w O L σ c v):aG w O L' σ' (QB s t c) v:=by
 cases c with
 |tuple vs=>cases h with|tuple _ us hl hh=>exact .tuple _ _ (by simpa using hl) (fH (λc v=>pj hk hL) hh)
 |_=>exact pj hk hL h
theorem CP{c:AV}(h:c.one=true\/c= .undef):(rN s t c).one=true\/rN s t c= .undef:=by
 rcases h with h|rfl
 .cases c <;> first|exact .inl h|exact .inl rfl|cases h
 .exact .inr rfl
end
theorem aq.name{cx:Cx}{fre:List Nat}{st:St}(s t:Nat)(kN:st.heap.all (λp=> !Nat.beq p.1 t)=true)(kD:(Nat.blt t 100000||eJ fre t)=true):aq cx fre st (st.name s t):=by
 rintro E a w hD ⟨σ,hs⟩;have kv :∀p∈st.heap,p.1≠t:=λp hp e=>by
  have:=aI.1 kN p hp;rw[e]at this;simp at this
 obtain⟨f1,f2⟩:=Fm (s:=s) (t:=t) kv;have hZ:∀x,live st.heap x->x≠t:=λx hl=>by
  obtain⟨b,hb⟩:=aH.1 hl;exact kv _ (fh hb)
 obtain⟨σ',xv⟩:∃σ' :Nat->Value,σ' =λq=>if q=t then σ s else σ q:=⟨_,rfl⟩
 have hL:∀x,live st.heap x->live (st.name s t).heap (eN s t x)/\σ' (eN s t x)=σ x:=λx hl=>by
  obtain⟨b,hb⟩:=aH.1 hl;refine⟨aH.2 ⟨_,f1 x b hb⟩,?_⟩;rw[xv];by_cases e:x=s
  .subst e;rw[rL];exact if_pos rfl
  .rw[tn e];exact if_neg (hZ x hl)
 have kB :∀q,live (st.name s t).heap q-> ∃x,live st.heap x/\q=eN s t x:=λq hq=>by
  obtain⟨b,hb⟩:=aH.1 hq;obtain⟨x,b0,h1,h2,_⟩:=f2 q b hb;exact⟨x,aH.2 ⟨b0,h1⟩,h2⟩
 have hk:bw w w (Own E.O (live st.heap) σ) (Own E.O (live (st.name s t).heap) σ'):=bw.less λb hb=>by
  rcases hb with hb|⟨q,hq,e⟩
  .exact .inl hb
  .obtain⟨x,h1,rfl⟩:=kB q hq;exact .inr ⟨x,h1,by rw[<- (hL x h1).2];exact e⟩
 refine⟨σ',hs.frame,hs.new,hs.apart,hs.defers,hs.nt,λu=>?_,⟨λq b hb=>?_,λq q' b lq xx =>?_⟩,hs.fI,hs.dQ,λq0 B hB=>⟨(hs.fix q0 B hB).1,λhl=>?_⟩⟩
 .have hg:(st.name s t).get u=QB s t (st.get u):=by
   simp only[St.get,St.name,lN];cases find st.aV u <;> rfl
  rw[hg];exact QC hk hL (hs.aV u)
 .obtain⟨x,b0,h1,rfl,rfl⟩:=f2 q b hb;have hl:live st.heap x:=aH.2 ⟨b0,h1⟩;have hold:=hs.holds.blk x b0 h1;have hσ:σ' (eN s t x)=σ x:=(hL x hl).2;cases b0 with
  |box cells =>
   obtain⟨g,cur,ty,p1,p2,p3,p4,p5⟩:=hold;refine⟨g,cur,ty,hσ.trans p1,p2,p3,by simpa using p4,λj c hj=>?_⟩;rw[bc]at hj;cases hc:cells[j]? with
   |none=>rw[hc]at hj;cases hj
   |some y =>
    rw[hc]at hj;cases hj;exact⟨CP (p5 j y hc).1,pj hk hL (p5 j y hc).2⟩
  |row e size rows fl =>
   obtain⟨xs,p1,p2,p3,p4,p5⟩:=hold;refine⟨xs,(by rw[hσ];exact p1),λb hb=>p2 b (by rw[<- hσ];exact hb),⟨p3.1,λh=>(by rw[hσ];exact p3.2 h)⟩,p4,λi r j d hi hj=>?_⟩;obtain⟨u,u1,u2⟩:=p5 i r j d hi hj;exact⟨u,u1,u2.mono hk⟩
  |smap m =>
   obtain⟨g,es,clock,p1,p2,p3,p4,p5⟩:=hold;refine⟨g,es,clock,hσ.trans p1,p2,p3,p4,λj k v hj=>?_⟩;obtain⟨e,e1,e2,e3⟩:=p5 j k v hj;exact⟨e,e1,e2.mono hk,e3.mono hk⟩
  |cY m =>
   obtain⟨g,es,clock,p1,p2,p3,p4⟩:=hold;exact⟨g,es,clock,hσ.trans p1,p2,p3,p4.mono λ_ _ h=>h.mono hk⟩
  |eF e size rows =>
   obtain⟨g,cur,ty,p1,p2,p3,p4,p5⟩:=hold;refine⟨g,cur,ty,by simpa using hσ.trans p1,p2,p3,λr hr=>?_,λi r j c hi hj=>?_⟩
   .obtain⟨r0,h0,rfl⟩:=List.mem_map.1 hr;rw[aA];exact p4 r0 h0
   .obtain⟨r0,c0,q1,q2,rfl⟩:=zk hi hj;obtain⟨⟨q3,q4⟩,q5⟩:=p5 i r0 j c0 q1 q2;exact⟨⟨CP q3,q4⟩,pj hk hL q5⟩
  |tail e size rows =>
   show iJ w _ e size rows (σ' (eN s t x))/\_
   rw[hσ];exact⟨hold.1.mono (λ_ _=>rfl) λ_ _ hr=>hr.mono hk,hold.2⟩
  |iter left cur =>
   show oV w _ left cur (σ' (eN s t x))/\_
   rw[hσ];exact⟨hold.1.mono (λ_ _=>rfl) hk,hold.2⟩
  |dJ m =>
   obtain⟨g,es,clock,p1,p2,p3,p4,p5⟩:=hold;refine⟨g,es,clock,hσ.trans p1,p2,p3,by rw[aA];exact p4,λj k v hj=>?_⟩;obtain⟨v0,ka,rfl⟩:=tL hj;obtain⟨e,e1,e2,e3⟩:=p5 j k v0 ka;exact⟨e,e1,e2,pj hk hL e3⟩
 .intro e e';obtain⟨x,h1,rfl⟩:=kB q lq;obtain⟨x',kU,rfl⟩:=kB q' xx;rw[hs.holds.inj x x' b h1 kU (by rw[<- (hL x h1).2];exact e) (by rw[<- (hL x' kU).2];exact e')]
 .obtain⟨x,h1,rfl⟩:=kB q0 hl;by_cases e:x=s
  .subst e;rw[rL]at hB hl ⊢;exfalso;rw[Bool.or_eq_true]at kD;rcases kD with h|h
   .have h1:=(hs.fix t B hB).1.2;have h2:t<100000:=Nat.lt_of_succ_le (bB h);omega
   .rw[hD t (jG h)]at hB;cases hB
  .rw[(hL x h1).2];rw[tn e]at hB;exact(hs.fix x B hB).2 h1
theorem aK.LL{cx:Cx}{st:St}(s:Nat)(b0 b1:Blk)(hf:find st.heap s=some b0)(xe:∀(w:World) (F O L:Nat->Prop) (σ:Nat->Value),cZ w F O L σ s b0->cZ w F O L σ s b1):aK cx st ⟨st.aV,(s,b1)::st.heap⟩:=by
 rintro E a w ⟨σ,hs⟩;have xj:live st.heap s:=aH.2 ⟨_,hf⟩;have hL:live ((s,b1)::st.heap)=live st.heap:=fj xj;refine⟨σ,hs.frame,hs.new,hs.apart,hs.defers,hs.nt,λq=>?_,⟨λx b hb=>?_,λx y b l l' f f' =>?_⟩,hs.fI,hs.dQ,λq0 B hB=>⟨(hs.fix q0 B hB).1,λh=>?_⟩⟩
 .show aG w E.O (live ((s,b1)::st.heap)) σ (st.get q) _
  rw[hL];exact hs.aV q
 .show cZ w E.F E.O (live ((s,b1)::st.heap)) σ x b
  rw[hL];have kC :find ((s,b1)::st.heap) x=some b:=hb;rw[fu]at kC;split at kC
  .rename_i hx;subst hx;cases kC;exact xe _ _ _ _ _ (hs.holds.blk _ _ hf)
  .exact hs.holds.blk x b kC
 .have l:live ((s,b1)::st.heap) x:=l;have l' :live ((s,b1)::st.heap) y:=l';rw[hL]at l l';exact hs.holds.inj x y b l l' f f'
 .have h:live ((s,b1)::st.heap) q0:=h;rw[hL]at h;exact(hs.fix q0 B hB).2 h
def amD(m:List (List UInt8×D)):List (List UInt8×AV):=m.map λp=>(p.1,.d p.2)
theorem aK.OB{cx:Cx}{st:St}(s:Nat)(m:List (List UInt8×D))(hf:find st.heap s=some (.smap m)):aK cx st ⟨st.aV,(s,.dJ (amD m))::st.heap⟩:=by
 refine aK.LL s _ _ hf λw F O L σ h=>?_
 obtain⟨g,es,cl,p1,p2,p3,p4,p5⟩:=h;refine⟨g,es,cl,p1,p2,p3,by rw[amD,aA];exact p4,λj k v hj=>?_⟩;obtain⟨v0,ka,rfl⟩:=tL hj;obtain⟨e,he,hk,hv⟩:=p5 j k v0 ka;exact⟨e,he,ny hk rfl,.d _ _ hv⟩
theorem aK.NS{cx:Cx}{st:St}(s:Nat)(m:List (List UInt8×D))(hf:find st.heap s=some (.dJ (amD m))):aK cx st ⟨st.aV,(s,.smap m)::st.heap⟩:=by
 refine aK.LL s _ _ hf λw F O L σ h=>?_
 obtain⟨g,es,cl,p1,p2,p3,p4,p5⟩:=h;refine⟨g,es,cl,p1,p2,p3,by rw[amD,aA]at p4;exact p4,λj k v hj=>?_⟩;obtain⟨e,he,hk,hv⟩:=p5 j k (.d v) (by rw[amD,bc,hj];rfl);refine⟨e,he,hk.rep,?_⟩;generalize e.val=u at hv;cases hv;assumption
theorem jo{cx:Cx}{pv:Int->Value}{f:FuncId}{args:List D}{x:AV}(h:FnP cx pv f (args.map D.dX) [] (some (x,[]))):Fn cx f args x []:=by
 refine⟨h.1,λO w vs hO hG kA kz ke=>?_⟩;have kE:∀{s:Nat},¬live ([]:List (Nat×Blk)) s:=λ{s} hl=>by simp[live,find]at hl
 have hH:∀b,¬dM [] (λ_=>Value.nilFunc) b:=λb ⟨s,hl,_⟩=>kE hl
 have hk:bw w w O (Own O (live []) λ_=>Value.nilFunc):=bw.less λb hb=>by
  rcases hb with hb|⟨s,hl,_⟩
  .exact hb
  .exact(kE hl).elim
 refine(h.2 O w (λ_=> .nilFunc) vs hO hG (λg cells hg=>⟨kA g cells hg,hH g⟩) (λb _=>hH b) ⟨λs b hb=>by simp[find]at hb,λs s' b hl=>(kE hl).elim⟩ (by rw[kz,aA]) (λj c hj=>?_)).mono λen w' =>?_
 .rw[bc]at hj;cases hd:args[j]? with
  |none=>rw[hd]at hj;cases hj
  |some d=>rw[hd]at hj;cases hj;exact iR ((ke j d hd).mono hk)
 .rintro⟨hf,u,σ',rfl,hh,_,hr⟩;exact⟨u,σ',rfl,⟨hf.os,hf.tape,hf.output,hf.size,λb hb=>hf.block b λhh=>hh.elim (hH b) λh=>by omega⟩,⟨λs b hb=>by simp[find]at hb,λs s' b hl=>(kE hl).elim⟩,hr⟩
theorem aq.keep{cx:Cx}{fre:List Nat}{st:St}{sl:List (Nat×AV)}{h:List (Nat×Blk)}(h1:DQ st h sl:=by repeat' (first|exact trivial|refine⟨⟨rfl,rfl⟩,?_⟩))(h2:pU st h h:=by repeat' (first|exact trivial|refine⟨⟨rfl,rfl⟩,?_⟩)):aq cx fre st ⟨sl,h⟩:=(aK.keep h1 h2).toP
theorem aq.refl{cx:Cx}{fre:List Nat}(st:St):aq cx fre st st:=(aK.refl st).toP
theorem aq.sn{cx:Cx}{fre:List Nat}{st:St}(l:List Nat):aq cx fre st (st.bP l):=(aK.sn l).toP
theorem iQ{cx:Cx}{fre:List Nat}{rs:List ResultVar}{x x' :AV}{st:St}(h:mF cx st rs=some x')(hx:rS [] x' =true)(e:x' =x):wA cx fre rs (some (x,[])) st:= .inr (.inl ⟨st,aq.refl st,by rw[h,e],by rw[<- e];exact hx,trivial⟩)
theorem Gl{cx:Cx}{fre:List Nat}{rs:List ResultVar}{x x' :AV}{st:St}(l:List Nat)(h:mF cx (st.bP l) rs=some x')(hx:rS [] x' =true)(e:x' =x):wA cx fre rs (some (x,[])) st:= .inr (.inl ⟨_,aq.sn l,by rw[h,e],by rw[<- e];exact hx,trivial⟩)
theorem aq.jw{cx:Cx}{fre:List Nat}{st:St}(k j s sz:Nat)(cells:List AV)(e:TypeId)(hU :Nat)(xc:find st.heap k=some (.box cells))(ka:cells[j]? =some (.nil sz))(h2:find st.heap s=none)(h3:0<hU)(h4:Nat.blt s 100000=true:=by rfl) :
 aq cx fre st ⟨st.aV,(s,.row e hU [])::(k,.box (cells.set j (.own s)))::st.heap⟩:=(aK.jw k j s sz cells e hU xc ka h2 h3 h4).toP
theorem aq.jV{cx:Cx}{fre:List Nat}{st:St}(t s sz:Nat)(e:TypeId)(hU :Nat)(h1:st.get t= .nil sz)(h2:find st.heap s=none)(h3:0<hU)(h4:Nat.blt s 100000=true:=by rfl):aq cx fre st ⟨(t,.own s)::st.aV,(s,.row e hU [])::st.heap⟩:=(aK.jV t s sz e hU h1 h2 h3 h4).toP
theorem cq{cx:Cx}{fre:List Nat}{rs:List ResultVar}{x v0:AV}{h' :List (Nat×Blk)}{st:St}(h:mF cx st rs=some v0)(e:dn3 v0=x)(hx:rS h' x=true)(hk:pU st h' h' :=by repeat' (first|exact trivial|refine⟨⟨rfl,rfl⟩,?_⟩)):wA cx fre rs (some (x,h')) st:= .inr (.inr ⟨st,v0,aq.refl st,h,e,hx,hk⟩)
theorem gz{cx:Cx}{fre:List Nat}{rs:List ResultVar}{x v0:AV}{h' :List (Nat×Blk)}{st st' :St}(hw:aq cx fre st st')(h:mF cx st' rs=some v0)(e:dn3 v0=x)(hx:rS h' x=true)(hk:pU st' h' h' :=by repeat' (first|exact trivial|refine⟨⟨rfl,rfl⟩,?_⟩)):wA cx fre rs (some (x,h')) st:= .inr (.inr ⟨st',v0,hw,h,e,hx,hk⟩)
end NQ
