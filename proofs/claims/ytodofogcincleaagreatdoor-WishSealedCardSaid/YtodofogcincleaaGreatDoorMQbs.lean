/-
  Merged texts.
-/
import Derived.Test.YtodofogcincleaaGreatDoorMQt
import Derived.Lib.AppendStr
import Derived.Lib.ConvBytes
set_option linter.all false
namespace NQ
open Go Go.RowKit
def dD(s:List UInt8):List (List D):=s.map λc=>[.int .u8 (c.toNat:Int)]
inductive XOp where
 |app (t u:TypeId) (s x:Operand)
 |conv (src dst:TypeId) (x:Operand)
 |arr (t:TypeId) (x:Operand)
 |box (x:Operand)
 |tail (t:TypeId) (x lo:Operand)
 |cut (t:TypeId) (x hi:Operand)
 |clr (t:TypeId) (x:Operand)
def Sd:AV->Bool
 | .undef=>true
 |c=>c.one
theorem QT{c:AV}(h:Sd c=true):c.one=true\/c= .undef:=by
 cases c <;> first|exact .inl h|exact .inr rfl
def xOf(cx:Cx)(o:Oper):Option XOp :=
 match o.op with
 | .call c=>(match c.callee,c.args.toList,c.argTypes.toList with
  | .builtin .append,[s,x],[t,u]=>(match isStr cx u with|true=>some (.app t u s x)|false=>none)
  | .builtin .clear,[x],[t]=>some (.clr t x)
  |_,_,_=>none)
 | .convert src dst x=>(match isStr cx src,bO cx dst with|true,some _=>some (.conv src dst x)|_,_=>none)
 | .slice t x none none none=>(match arrayElem cx t with|some _=>some (.arr t x)|none=>none)
 | .slice t x (some lo) none none=>(match inL 777001 cx.bld with|true=>some (.tail t x lo)|false=>none)
 | .slice t x none (some hi) none=>(match inL 777001 cx.bld with|true=>some (.cut t x hi)|false=>none)
 | .box _ x=>some (.box x)
 |_=>none
def DY(ei:TI):Bool:=match ei with
 |⟨1,1,.int .u8,[.d (.int .u8 0)]⟩=>true
 |_=>false
def xK(cx:Cx)(st:St)(d:Option Nat)(x:XOp)(k:AV->List (Nat×AV)->List (Nat×Blk)->Prop):Prop :=
 match x with
 | .app t u s x=>(match bO cx t,st.ev cx x with
  |some (e,ei),.d (.str b)=>(match DY ei with
   |true=>(match st.ev cx s with
    | .own s=>(match find st.heap s with
     |some (.row e' sz' rows _)=>(match Nat.beq e e',Nat.beq 1 sz' with
      |true,true=>rows.length+b.length<=140737488355328/\k (.own s) (gC s st.slots) ((s,.row e' sz' (rows++dD b))::dM s st.heap)
      |_,_=>False)
     |_=>False)
    | .nil _=>(match d with
     |some d=>(match find st.heap d with
      |none=>b.length<=140737488355328/\k (.own d) st.slots ((d,.row e 1 (dD b))::st.heap)
      |some _=>False)
     |none=>False)
    |_=>False)
   |false=>False)
  |_,_=>False)
 | .conv src dst x=>(match bO cx dst,st.ev cx x with
  |some (e,ei),.d (.str b)=>(match DY ei with
   |true=>k (.d (.slice 1 (dD b))) st.slots st.heap
   |false=>False)
  |_,_=>False)
 | .arr t x=>(match arrayElem cx t,st.ev cx x with
  |some (n,ei),.d (.ptr cells)=>(match Nat.beq ei.size 1,Nat.beq n cells.length with
   |true,true=>k (.d (.slice 1 (cells.map λc=>[c]))) st.slots st.heap
   |_,_=>False)
  |_,_=>False)
 | .box x=>(match d,cellsOf (st.ev cx x)with
  |some d,some cs=>(match vS cs with
   |some cs=>(match cs.all Sd,find st.heap d with
    |true,none=>k (.ptr d 0) st.slots ((d,.box cs)::st.heap)
    |_,_=>False)
   |none=>False)
  |_,_=>False)
 | .tail t x lo=>(match bO cx t,st.ev cx x,st.ev cx lo with
  |some (_,ei),.own s,.d (.int _ l)=>(match find st.heap s with
   |some (.row _ sz rows _)=>(match Nat.beq sz ei.size with
    |true=>0<=l/\l.toNat<rows.length/\k (.tl s sz l.toNat) st.slots st.heap
    |false=>False)
   |_=>False)
  |_,_,_=>False)
 | .cut t x hi=>(match bO cx t,st.ev cx x,st.ev cx hi with
  |some (_,ei),.own s,.d (.int _ l)=>(match find st.heap s with
   |some (.row e sz rows _)=>(match Nat.beq sz ei.size with
    |true=>0<=l/\l.toNat<rows.length/\k (.own s) (gC s st.slots) ((s,.row e sz (rows.take l.toNat))::dM s st.heap)
    |false=>False)
   |_=>False)
  |_,_,_=>False)
 | .clr t x=>(match bO cx t,st.ev cx x with
  |some (e,ei),.tl s sz0 i=>(match find st.heap s,bN dI ei.zero with
   |some (.row e' sz rows fl),some z=>(match Nat.beq e e',Nat.beq sz ei.size,Nat.beq sz0 sz with
    |true,true,true=>i<rows.length/\k (.tuple []) st.slots ((s,.row e' sz (rows.take i++List.replicate (rows.length-i) z) fl)::st.heap)
    |_,_,_=>False)
   |_,_=>False)
  |_,_=>False)
theorem GZ{ei:TI}(h:DY ei=true):ei=⟨1,1,.int .u8,[.d (.int .u8 0)]⟩:=by
 unfold DY at h;split at h
 . rfl
 . cases h
theorem size_data(b:ByteArray):b.size=b.data.toList.length:=by rw[Array.length_toList];rfl
theorem ES{b:ByteArray}{j:Nat}{r:List D}{q:Nat}{d:D}(hi:(dD b.data.toList)[j]? =some r)(hj:r[q]? =some d):∃z,(Lib.strCells b)[j*1+q]? =some z/\ ∀{w:World} {O:Nat->Prop},Rep w O d z:=by
 unfold dD at hi;rw[aN]at hi;cases hc:b.data.toList[j]? with
 |none=>rw[hc]at hi;cases hi
 |some c =>
  rw[hc]at hi;cases hi;rcases q with _|q
  . cases hj;refine⟨.int .u8 c.toNat,?_,.int _ _⟩;rw[Nat.mul_one,Nat.add_zero,Lib.strCells,aN,hc];rfl
  . simp at hj
section
variable {cx:Cx} {st:St} {σ:Nat->Value} {a:Act} {w:World} {E:Env}
theorem tG(b:List UInt8):∀r∈dD b,r.length=1/\ ∀d∈r,d.one=true:=λr hr=>by
 obtain⟨c,_,rfl⟩:=List.mem_map.1 hr;exact⟨rfl,λd hd=>by rw[List.mem_singleton.1 hd];rfl⟩
theorem rJ(b:List UInt8):(dD b).length=b.length:=by simp[dD]
theorem yc(hT:ba cx){t e u ty:TypeId}{ei:TI}(hse:bO cx t=some (e,ei))(hu8:DY ei=true)(hu:isStr cx u=true){O:Nat->Prop}
 {v:Value} {n:Nat} {xs:List Value} (hown:w.ownsRow 0 e 1 v n xs) (b:ByteArray) (hb1:n+b.size<=140737488355328) :
 ∃v' w' news,(Builtin.append_ #[t,u] ty #[v,.string b]).run cx.P w= .ok v' w' /\w'.ownsRow 0 e 1 v' (n+(dD b.data.toList).length) (xs++news)/\w.grownBy w' v.ownBlock/\(∀g,home v' =some g->home v=some g\/w.heap.size<=g) /\
  (∀r∈dD b.data.toList,r.length=1/\ ∀d∈r,d.one=true)/\ ∀i r j d,(dD b.data.toList)[i]? =some r->r[j]? =some d-> ∃z,news[i*1+j]? =some z/\Rep w O d z:=by
 obtain rfl:=GZ hu8;obtain⟨ti,ht,hkd,hei⟩:=bP hse;obtain⟨_,_,_,_,t2,t3,_⟩:=hT _ _ ht;rw[hkd]at t3;obtain rfl:=bE t3;obtain⟨tu,hu1,hu2⟩:=iT hu;obtain⟨_,_,_,_,u2,u3,_⟩:=hT _ _ hu1;rw[hu2]at u3;obtain rfl:=ee u3;obtain⟨info,desc,zv,i1,i2,i3,i4,i5,i6,i7,i8,i9,i10⟩:=hT _ _ hei;have i4:info.size=1:=i4;have i5:info.bytes=1:=i5;have hzv:zv= .int .u8 0:=by
  have h9:=i9 0 _ rfl;have h10:zv.oneCell' =true:=i10;have h7:zv.cells.size=1:=i7;cases zv <;> first|(cases h10;done)|(simp[Value.cells,iK]at h9;first|done|exact congrArg _ h9|(obtain⟨rfl,rfl⟩:=h9;rfl))
 subst hzv;obtain⟨v',w',r1,r2,r3,_⟩:=Lib.run_append_own_string (P:=cx.P) w 0 t u ty e info t2 u2 i1 i6 i4 i5 v n xs hown b (by unfold maxLen;omega) hb1 (Nat.zero_le _);refine⟨v',w',_,r1,by rw[rJ, <- size_data];exact r2,r3,λg hg=>?_,tG _,λi r j d hi hj=>?_⟩
 . rcases hown.2 with ⟨rfl,rfl⟩|⟨g0,cap,cur,rfl,_,hg0,hnc,_,hcs,_⟩
   . by_cases h0:b.size=0
     . have hxs:xs=[]:=List.eq_nil_of_length_eq_zero (by have:=hown.1;simpa using this);subst hxs;have hn:Lib.strCells b=[]:=List.eq_nil_of_length_eq_zero (by rw[Lib.strCells_length];exact h0);have hf:=Lib.run_firstCells_string (P:=cx.P) w 1 b;rw[h0]at hf;have:(Builtin.append_ #[t,u] ty #[.slice none 0 0,.string b]).run cx.P w= .ok (.slice none 0 0) w:=by
        simp[Builtin.append_,run_underlying t2,run_underlying u2,Go.sizeOf,typeInfo,i1,i4,Builtin.lenOf,h0,hf]
       rw[this]at r1;cases r1;cases hg
     . have:=run_append_nil_string (P:=cx.P) w t u ty e info (.int .u8 0) t2 u2 i1 i6 b (by omega) (by omega) (by rw[i5];omega);rw[this]at r1;cases r1;cases hg;exact .inr (Nat.le_refl _)
   . by_cases hroom:n+b.size<=cap
     . have:=Lib.run_append_room_string (P:=cx.P) w t u ty e info t2 u2 i1 i4 g0 n cap cur hg0 b hroom (by omega);rw[this]at r1;cases r1;exact .inl hg
     . have:=Lib.run_append_grow_string (P:=cx.P) w t u ty e info (.int .u8 0) t2 u2 i1 i6 ⟨g0,0,none⟩ n cap xs (by rw[i4];exact hown.1) (hown.cells (g:=g0) rfl) b (by omega) (by omega) (by rw[i5];exact growslice_fits (by omega) (by omega));rw[this]at r1;cases r1;cases hg;exact .inr (Nat.le_refl _)
 . obtain⟨z,hz,hd⟩:=ES hi hj;exact⟨z,hz,hd⟩
theorem Tf(hT:ba cx){o:Oper}{x0:XOp}(hx0:xOf cx o=some x0){k:AV->List (Nat×AV)->List (Nat×Blk)->Prop}(h:xK cx st o.dst x0 k):∃v sl hp,iu cx o st ⟨bd sl o.dst v,hp⟩/\k v sl hp:=by
 unfold xOf at hx0;split at hx0
 . rename_i c ho;split at hx0
   . rename_i s x t u hc1 hc2 hc3;split at hx0
     . rename_i hu;cases hx0;have hc' :c={callee:= .builtin .append,args:= #[s,x],argTypes:= #[t,u]}:=by
        obtain⟨cc,ca,ct⟩:=c;simp only at hc1 hc2 hc3;subst hc1;have e1:ca= #[s,x]:=by rw[<- Array.toList_inj];exact hc2
        have e2:ct= #[t,u]:=by rw[<- Array.toList_inj];exact hc3
        rw[e1,e2]
       rw[hc']at ho;have hexec:∀(a:Act) (w:World) {z:Value} {w' :World},(Builtin.append_ #[t,u] o.type #[a.eval s,a.eval x]).run cx.P w= .ok z w' ->(execOp a.eval o).run cx.P w= .ok (.value z) w' :=λa w z w' hh=>by
        simp[execOp,ho,resolve,invoke,builtin,hh]
       simp only[xK]at h;split at h
       case h_2=>exact h.elim
       rename_i e ei b hse hxv;split at h
       case h_2=>exact h.elim
       rename_i hu8;have hsz:(0:Nat)<1:=Nat.one_pos;split at h
       . rename_i site hsv;split at h
         . rename_i e' sz' rows fl0 hf;split at h
           . rename_i c1 c2;obtain rfl:e=e' :=aO c1;obtain rfl:1=sz' :=aO c2;obtain⟨b1,hk⟩:=h;refine⟨_,_,_,λE a w Q hd ⟨σ,hs⟩=>?_,hk⟩;have hrs:=hs.ev (St.le.refl st) s;rw[hsv]at hrs;have hrx:=hs.ev (St.le.refl st) x;rw[hxv]at hrx;obtain⟨bb,hbb,rfl⟩:=hrx.str;obtain⟨xs,o1,o2,o3,o4,o5⟩:=hs.holds.blk site _ hf;have hl:live st.heap site:=ax.2 ⟨_,hf⟩;obtain⟨v',w',news,r1,r2,r3,r4,r5,r6⟩:=yc (O:=Own E.O (live st.heap) σ) (ty:=o.type) hT hse hu8 hu o1 bb (by rw[size_data];exact b1);have hsv' :a.eval s=σ site:=by generalize a.eval s=u at hrs;cases hrs;rfl
             rw[<- hsv', <- hbb]at r1;simp only[Oper.wp,hexec a w r1,Oper.upon];refine hs.EW (τ:=v') hd hl (λaa e=>by rcases o1.2 with ⟨e',_⟩|⟨_,_,_,e',_⟩ <;> (rw[e']at e;cases e)) r3.os r3.tape r3.output r3.size (λq hq hne=>r3.block q hq λe=>hne ?_) r4 (λσ' e1 hkeep=>?_) (λσ' e1=>?_)
             . have:(σ site).ownBlock=some q:=e.symm;generalize σ site=z at this ⊢;cases z <;> simp[Value.ownBlock]at this;rename_i aa _ _;cases aa <;> simp[Value.ownBlock]at this;simp[home,this]
             . refine⟨xs++news,by rw[e1,List.length_append];exact r2,λb hb=>?_,⟨o3.1,λe=>by cases e⟩,λr hr=>?_,lQ (by rw[o1.1]) hkeep o5 r6⟩
               . rw[e1]at hb;rcases r4 b hb with hb|hb
                 . exact o2 b hb
                 . exact hs.new b (Nat.le_trans hs.frame.size hb)
               . rcases List.mem_append.1 hr with hr|hr
                 . exact o4 r hr
                 . exact r5 r hr
             . have:=au.own (w:=w') (O:=E.O) (σ:=σ') site hl;rw[e1]at this;exact this
           . exact h.elim
         . exact h.elim
       . rename_i z0 hsv;split at h
         . rename_i d hd0;split at h
           . rename_i hf;obtain⟨b1,hk⟩:=h;refine⟨_,_,_,λE a w Q hd ⟨σ,hs⟩=>?_,hk⟩;have hrs:=hs.ev (St.le.refl st) s;rw[hsv]at hrs;have hrx:=hs.ev (St.le.refl st) x;rw[hxv]at hrx;obtain⟨bb,hbb,rfl⟩:=hrx.str;have hsv' :a.eval s= .slice none 0 0:=by generalize a.eval s=u at hrs;cases hrs;rfl
             obtain⟨v',w',news,r1,r2,r3,r4,r5,r6⟩:=yc (O:=Own E.O (live st.heap) σ) (ty:=o.type) hT hse hu8 hu (World.ownsRow_nil w 0 e 1) bb (by rw[size_data];simpa using b1);rw[<- hsv', <- hbb]at r1;simp only[Oper.wp,hexec a w r1,Oper.upon];have hn:¬live st.heap d:=by unfold live;rw[hf];simp
             let σ' :Nat->Value:=λx=>if x=d then v' else σ x
             have e1:σ' d=v' :=if_pos rfl;have e2:∀x,live st.heap x->σ' x=σ x:=λx hl=>if_neg λ(e:x=d)=>hn (e ▸ hl)
             have hbel:Below w.heap.size w w' :=oX r3;have hnew:∀g,home v' =some g->w.heap.size<=g:=λg hg=>by
              rcases r4 g hg with h|h
              . cases h
              . exact h
             have hkeep:aU w w' (Own E.O (live st.heap) σ) (Own E.O (live ([(d,Blk.row e 1 (dD bb.data.toList))]++st.heap)) σ'):=by
              refine⟨hbel.size,λx _ hx=>hbel.block x hx,λx hno hx ho=>?_⟩;rcases ho with ho|⟨y,hl,e⟩
              . exact hno (.inl ho)
              . rcases bW.1 hl with hl|hl
                . rw[bH.1 hl,e1]at e;have:=hnew x e;omega
                . rw[e2 y hl]at e;exact hno (.inr ⟨y,hl,e⟩)
             have hld:live ([(d,Blk.row e 1 (dD bb.data.toList))]++st.heap) d:=bW.2 (.inl (bH.2 rfl));have hfx:∀q0 B,E.fix q0=some B-> ¬live [(d,Blk.row e 1 (dD bb.data.toList))] q0:=λq0 B hB hl=>by
              have h1:=(hs.fix q0 B hB).1;have h2:d<E.nt:=hd d (by assumption);have h3:q0=d:=bH.1 hl;omega
             refine⟨σ',hs.grow (bs:=[(d,Blk.row e 1 (dD bb.data.toList))]) (v:= .own d) hd e2 hbel hfx (λx g hl e=>?_) (λx y g hl hl' _ _=>(bH.1 hl).trans (bH.1 hl').symm) (λx b hb=>?_) ?_⟩
             . rw[bH.1 hl,e1]at e;exact hnew g e
             . have hl:=bH.1 (ax.2 ⟨b,hb⟩);subst hl;rw[aP]at hb;cases hb;refine⟨news,by rw[e1];simpa using r2,λb hb=>?_,⟨hsz,λe=>by cases e⟩,r5,λi r j d hi hj=>?_⟩
               . rw[e1]at hb;exact hs.new b (Nat.le_trans hs.frame.size (hnew b hb))
               . obtain⟨u,hu,hd⟩:=r6 i r j d hi hj;exact⟨u,hu,hd.mono hkeep⟩
             . have:=au.own (w:=w') (O:=E.O) (σ:=σ') d hld;rw[e1]at this;exact this
           . exact h.elim
         . exact h.elim
       . exact h.elim
     . cases hx0
   . rename_i x t hc1 hc2 hc3;cases hx0;have hc' :c={callee:= .builtin .clear,args:= #[x],argTypes:= #[t]}:=by
      obtain⟨cc,ca,ct⟩:=c;simp only at hc1 hc2 hc3;subst hc1;have e1:ca= #[x]:=by rw[<- Array.toList_inj];exact hc2
      have e2:ct= #[t]:=by rw[<- Array.toList_inj];exact hc3
      rw[e1,e2]
     rw[hc']at ho;simp only[xK]at h;split at h
     case h_2=>exact h.elim
     rename_i e ei s sz0 i hse hxv;split at h
     case h_2=>exact h.elim
     rename_i e' sz rows fl z hf hz;split at h
     case h_2=>exact h.elim
     rename_i he hs1 hs2;obtain rfl:e=e' :=aO he;obtain rfl:sz0=sz:=aO hs2;obtain rfl:sz0=ei.size:=aO hs1;exact⟨_,_,_,Qd hT ho hse hz hxv hf h.1,h.2⟩
   . cases hx0
 . rename_i src dst x ho;split at hx0
   . rename_i hstr hse0;cases hx0;simp only[xK]at h;split at h
     case h_2=>exact h.elim
     rename_i e ei b hse hxv;split at h
     case h_2=>exact h.elim
     rename_i hu8;obtain rfl:=GZ hu8;refine⟨_,_,_,λE a w Q hd ⟨σ,hs⟩=>?_,h⟩;obtain⟨ti,ht,hkd,hei⟩:=bP hse;obtain⟨_,_,_,_,t2,t3,_⟩:=hT _ _ ht;rw[hkd]at t3;obtain rfl:=bE t3;obtain⟨tu,hu1,hu2⟩:=iT hstr;obtain⟨_,_,_,_,u2,u3,_⟩:=hT _ _ hu1;obtain⟨_,_,_,_,e2,e3,_⟩:=hT _ _ hei;have e3:=mX e3;subst e3;have hrx:=hs.ev (St.le.refl st) x;rw[hxv]at hrx;obtain⟨bb,hbb,rfl⟩:=hrx.str;have hrun:=Lib.run_convert_string_bytes (P:=cx.P) w src dst e bb u2 t2 e2;have hexec:(execOp a.eval o).run cx.P w= .ok (.value (.slice (some ⟨w.heap.size,0,none⟩) bb.size (grownCap w bb.size 0 e))) (Lib.bytesWorld w e bb):=by
      simp[execOp,ho,hbb,hrun]
     simp only[Oper.wp,hexec,Oper.upon];have hbel:Below w.heap.size w (Lib.bytesWorld w e bb):=⟨rfl,rfl,rfl,by rw[Lib.bytesWorld_size];omega,λk hk=>Lib.bytesWorld_at_old w e bb k hk⟩
     refine⟨σ,hs.grow (bs:=[]) (v:= .d (.slice 1 (dD bb.data.toList))) hd (λs hl=>rfl) hbel (λq0 B hB hl=>by simp[live,find]at hl) (λs b hl=>by simp[live,find]at hl) (λs s' b hl=>by simp[live,find]at hl) (λs b hb=>by simp[find]at hb) ?_⟩;have hns:¬Own E.O (live ([]++st.heap)) σ w.heap.size:=λhO=>by
      have:=hs.pf _ hO;omega
     refine .d _ _ (.slice 1 _ w.heap.size 0 _ _ (λi j=> .int .u8 (bb.data.toList.getD i 0).toNat) (by rw[rJ,size_data]) hns (by rw[Lib.bytesWorld_size];omega) (grownCap_ge w bb.size 0 e) (tG _) (λi r j d hi hj=>?_) λi r j d hi hj=>?_)
     . have hlt:=(aq.1 hi).1;rw[rJ]at hlt;have hj0:j=0:=by
        have:=(tG _ r (ar hi)).1;have h2:=(aq.1 hj).1;omega
       subst hj0;have:=Lib.bytesWorld_cell w e bb i (by rw[size_data];exact hlt);rw[<- this]
       congr 2
       omega
     . unfold dD at hi;rw[aN]at hi;cases hc:bb.data.toList[i]? with
       |none=>rw[hc]at hi;cases hi
       |some c =>
        rw[hc]at hi;cases hi;rcases j with _|j
        . cases hj;have:bb.data.toList.getD i 0=c:=by rw[List.getD_eq_getElem?_getD,hc];rfl
          rw[this];exact .int _ _
        . simp at hj
   . cases hx0
 . rename_i t x ho;split at hx0
   . rename_i hae;cases hx0;simp only[xK]at h;split at h
     case h_2=>exact h.elim
     rename_i n ei cells hae hxv;split at h
     case h_2=>exact h.elim
     rename_i hs1 hn1;have hs1:=aO hs1;have hn1:=aO hn1;subst hn1;refine⟨_,_,_,λE a w Q hd ⟨σ,hs⟩=>?_,h⟩;obtain⟨ti,e,ht,hkd,hei⟩:=tW hae;obtain⟨_,_,_,_,t2,t3,_⟩:=hT _ _ ht;rw[hkd]at t3;obtain rfl:=uQ t3;obtain⟨_,r2⟩:=cZ (w:=w) hT hei;have hrx:=hs.ev (St.le.refl st) x;rw[hxv]at hrx;generalize hux:a.eval x=ux at hrx;cases hrx with|d _ _ hrx=>cases hrx with|ptr _ B off us hO hB hone h1 h2 =>
      have hexec:(execOp a.eval o).run cx.P w= .ok (.value (.slice (some ⟨B,off,none⟩) cells.length cells.length)) w:=by
       simp only[execOp,ho,Option.map_none,hux];simp only[Sem.run_bind,Sem.run_pure,Instr.sliceAt,run_underlying t2,Result.andThen_ok,Instr.sureAddr,Instr.sliceBounds,r2,Nat.zero_mul,Nat.sub_zero,cC,Nat.add_zero,ite_self]
      simp only[Oper.wp,hexec,Oper.upon];refine⟨σ,hs.put hd (.d _ _ ?_)⟩;cases hc:cells with
      |nil=>exact .empty _ _ _
      |cons c0 t0 =>
       rw[<- hc];refine .slice 1 _ B off _ _ (λi j=>us i) (by simp) hO hB (Nat.le_refl _) (λr hr=>?_) (λi r j d hi hj=>?_) λi r j d hi hj=>?_
       . obtain⟨c,hc,rfl⟩:=List.mem_map.1 hr;exact⟨rfl,λd hd=>by rw[List.mem_singleton.1 hd];exact hone c hc⟩
       all_goals
        rw[aN]at hi;cases hci:cells[i]? with
        |none=>rw[hci]at hi;cases hi
        |some c =>
         rw[hci]at hi;cases hi;rcases j with _|j
         . cases hj
           first
            |exact h2 i _ hci
            |(have:=h1 i _ hci;rw[Nat.mul_one,Nat.add_zero];exact this)
         . simp at hj
   . cases hx0
 . rename_i t x lo ho;split at hx0
   . cases hx0;simp only[xK]at h;split at h
     case h_2=>exact h.elim
     rename_i e ei s kd l hse hxv hlv;split at h
     case h_2=>exact h.elim
     rename_i e' sz rows fl hf;split at h
     case h_2=>exact h.elim
     rename_i hs1;obtain rfl:sz=ei.size:=aO hs1;exact⟨_,_,_,Pd hT ho hse hxv hlv hf h.1 h.2.1,h.2.2⟩
   . cases hx0
 . rename_i t x lo ho;split at hx0
   . cases hx0;simp only[xK]at h;split at h
     case h_2=>exact h.elim
     rename_i e ei s kd l hse hxv hlv;split at h
     case h_2=>exact h.elim
     rename_i e' sz rows fl hf;split at h
     case h_2=>exact h.elim
     rename_i hs1;obtain rfl:sz=ei.size:=aO hs1;exact⟨_,_,_,Qf hT ho hse hxv hlv hf h.1 h.2.1,h.2.2⟩
   . cases hx0
 . rename_i e x ho;cases hx0;simp only[xK]at h;split at h
   case h_2=>exact h.elim
   rename_i d cs0 hd0 hc;split at h
   case h_2=>exact h.elim
   rename_i cs hn;obtain rfl:=tk hn;split at h
   case h_2=>exact h.elim
   rename_i hone hf;have hop:cr cx o st (.ptr d 0) [(d,.box cs)]:=cr.new (by rw[ho];rfl) hd0 λE st' σ a w hle hs=>by
    obtain⟨k1,k2⟩:=iP hc hs.one (hs.ev hle x);refine⟨w.alloc (.cells (a.eval x).cells e),.pointer (some ⟨w.heap.size,0,none⟩),.pointer (some ⟨w.heap.size,0,none⟩),?_,ix _ _,λg hg=>by cases hg;exact Nat.le_refl _,λσ' e1 hF hk hss hl=>⟨?_,?_⟩⟩
    . simp[execOp,ho,Instr.box,newVar,newRow,newObj,Sem.run]
    . exact Dc hss hk e1 (hF _ (Nat.le_refl _)) k1 λj c hc=>⟨QT (ay.1 hone c (ar hc)),k2 j c hc⟩
    . exact .ptr _ _ _ hl e1
   have hfr:∀s,live [(d,Blk.box cs)] s-> ¬live st.heap s:=λs hl=>by
    rw[bH.1 hl];unfold live;rw[hf];simp
   exact⟨_,_,_,λE a w Q hd hs=>hop.1 E st a w Q (St.le.refl st) hd hfr hs,h⟩
 . cases hx0
end
def xV(fre:List Nat)(E:Env):Prop:= ∀q∈fre,E.fix q=none
def ah(cx:Cx)(fre:List Nat)(st st' :St):Prop:= ∀(E:Env) a w,xV fre E->Sim cx E st a w->Sim cx E st' a w
theorem aF.toP{cx:Cx}{fre:List Nat}{st st' :St}(h:aF cx st st'):ah cx fre st st' :=λE a w _ hs=>h E a w hs
theorem ah.trans{cx:Cx}{fre:List Nat}{a b c:St}(h:ah cx fre a b)(k:ah cx fre b c):ah cx fre a c:=λE x w hp hs=>k E x w hp (h E x w hp hs)
def En(cx:Cx)(nt:Nat)(ops:List Oper)(o:Oper)(k:St->Prop)(st:St):Prop :=
 ia ops st o (match zR cx st o with
     |some (s,left)=>(match cM nt o.dst with
      |true=>(left=[]->k ⟨bd st.slots o.dst (.tuple [.d (.bool false)]),st.heap⟩)/\ ∀i kk x,left[i]? =some (kk,x)->k ⟨bd st.slots o.dst (AB kk x),(s,.iter (left.eraseIdx i) (some (kk,x)))::st.heap⟩
      |false=>False)
     |none=>(match vW cx st o with
      |some (d,m)=>(match cM nt o.dst,find st.heap d with
       |true,none=>k ⟨bd st.slots o.dst (.ptr d 0),(d,.iter m none)::st.heap⟩
       |_,_=>False)
      |none=>(match vG cx st o with
       |some (kk,x)=>(match cM nt o.dst with
        |true=>k ⟨bd st.slots o.dst (.tuple [(ry kk).dB,x.dB]),st.heap⟩
        |false=>False)
       |none=>(match yq cx st o with
        |some r=>(match cM nt o.dst with
         |true=>r.rows2.length=r.rows.length/\k ⟨bd st.slots o.dst (.d (.int .i64 r.rows.length)),(r.s,.row r.e r.sz r.rows2 r.fl)::st.heap⟩
         |false=>False)
        |none=>(match zg cx st o with
         |some (g,as)=>(match cM nt o.dst with
          |true=> ∃(ι:Type) (res:ι->AV) (bs:ι->List (Nat×Blk)),(FnC cx g as res bs/\ ∀i,sZ (bs i)=true/\pQ st.heap (bs i)=true)/\ ∀i,k (st.put o.dst (res i) (bs i))
          |false=>False)
         |none=>zK cx nt o st λst' =>k st'))))) (match cM nt o.dst with|true=>k (st.put o.dst (.tuple []) [])|false=>False)
theorem Ho(cx:Cx)(nt:Nat)(ops:List Oper)(o:Oper)(k:St->Prop)(st:St):En cx nt ops o k st=seqB cx nt ops [o] k st:=rfl
def JJ(cx:Cx)(pv:Int->Value)(nt:Nat)(Qp:St->Prop)(ops:List Oper)(o:Oper)(ih:(St->Prop)->St->Prop)(k:St->Prop)(st:St):Prop :=
 match pOf cx st o with
  | some (f, as) => ia ops st o (match cM nt o.dst with
      |true=>zf cx pv st f as Qp λv st1=>ih k ⟨bd st1.slots o.dst v,st1.heap⟩
      |false=>False) (match cM nt o.dst with|true=>ih k (st.put o.dst (.tuple []) [])|false=>False)
  |none=>(match xOf cx o with
   |some x=>ia ops st o (match cM nt o.dst with
    |true=>xK cx st o.dst x λv sl hp=>ih k ⟨bd sl o.dst v,hp⟩
    |false=>False) (match cM nt o.dst with|true=>ih k (st.put o.dst (.tuple []) [])|false=>False)
   |none=>En cx nt ops o (λst1=>ih k st1) st)
noncomputable def JI (cx:Cx) (pv:Int->Value) (nt:Nat) (Qp:St->Prop) (ops:List Oper) (l:List Oper):(St->Prop)->St->Prop :=
 List.rec (motive:=λ_=>(St->Prop)->St->Prop) (λk st=>k st) (λo _ ih k st=>JJ cx pv nt Qp ops o ih k st) l
theorem Me(cx:Cx)(pv:Int->Value)(nt:Nat)(Qp:St->Prop)(ops:List Oper)(o:Oper)(rest:List Oper)(k:St->Prop)(st:St):JI cx pv nt Qp ops (o::rest) k st=JJ cx pv nt Qp ops o (JI cx pv nt Qp ops rest) k st:=rfl
theorem Oper.Pq{P:Program}{o:Oper}{a:Act}{w:World}{K:Act->World->Prop}{Q Q' :Exit->Act->World->Prop}(h:∀e a w,e≠Exit.normal->Q e a w->Q' e a w)
 (hh:o.wp P a w K Q):o.wp P a w K Q' :=by
 unfold Oper.wp at *
 generalize (execOp a.eval o).run P w=r at *
 cases r with
 |ok n w' =>
  cases n <;> simp only[Oper.upon]at hh ⊢ <;>
   first
    |exact hh
    | exact Calls.mono hh (fun e w'' he => by
        cases e
        . exact he
        . exact h _ _ _ (λe=>by cases e) he
        . obtain⟨a,w,hq⟩:=he;exact⟨a,w,h _ _ _ (λe=>by cases e) hq⟩)
    |exact Rows.mono hh (λ_ _ he=>he)
 |halt x w' =>cases x <;> simp only[Oper.upon]at hh ⊢ <;> first|exact h _ _ _ (λe=>by cases e) hh|exact hh
theorem Km{P:Program}{ops:Array Oper}{Q:Exit->Act->World->Prop}{o:Oper}{rest:List Oper}{a:Act}{w:World}
 (h:wpList P ops (λe a w=>match e with| .normal=>wpList P ops Q rest a w|e=>Q e a w) [o] a w):wpList P ops Q (o::rest) a w:=by
 unfold wpList at h ⊢;split at h
 . rename_i hw;rw[if_pos hw];rcases h with h|⟨h1,a,w,h2⟩
   . refine .inl ?_;refine Oper.Pq (λe a w hne hq=>?_) (Oper.wp_mono (λa w hk=>?_) h)
     . cases e <;> first|exact absurd rfl hne|exact hq
     . unfold wpList at hk;exact hk
   . exact .inr ⟨h1,a,w,h2⟩
 . rename_i hw;rw[if_neg hw];unfold wpList at h;exact h
section
variable {cx:Cx} {pv:Int->Value} {nt:Nat}
theorem pG(hT:ba cx){ops:Array Oper}{E:Env}(hn:E.nt=nt){Qp:St->Prop}{Q:Exit->Act->World->Prop}:∀(l:List Oper) {k:St->Prop} {st:St} {a:Act} {w:World},JI cx pv nt Qp ops.toList l k st->Sim cx E st a w ->
 (∀st' a' w',k st' ->Sim cx E st' a' w' ->Q .normal a' w')->(∀st1 a' w' (e:Int),e≠0->Qp st1->Sim cx E st1 a' w' ->Q (.panic [{v:=pv e,recovered:=false}]) a' w')->wpList cx.P ops Q l a w
 |[],k,st,a,w,h,hs,hQ,_=>hQ st a w h hs
 |o::rest,k,st,a,w,h,hs,hQ,hQp=>by
  rw[Me]at h;unfold JJ at h;split at h
  . rename_i f as hp;unfold wpList;rcases mz h hs with ⟨hw,h⟩|⟨hw,h⟩
    . rw[if_pos hw];split at h
      . rename_i hd;obtain⟨c,x,ho,hc,rfl,has⟩:=LU hp;refine .inl (Ey ho hc has h (by rw[hn];exact cP hd) hs (λv st1 a' w' hk hs' =>?_) λh1 w' e he hq hs' =>hQp _ _ _ e he hq hs');exact pG hT hn rest hk hs' hQ hQp
      . exact h.elim
    . rw[if_neg (by simp[hw])];split at h
      . rename_i hd;exact pG hT hn rest h (fp (by rw[hn];exact cP hd) hs) hQ hQp
      . exact h.elim
  . split at h
    . rename_i x hx;unfold wpList;rcases mz h hs with ⟨hw,h⟩|⟨hw,h⟩
      . rw[if_pos hw];split at h
        . rename_i hd;obtain⟨v,sl,hp,h1,h2⟩:=Tf hT hx h;exact .inl (Oper.wp_mono (λa' w' hs' =>pG hT hn rest h2 hs' hQ hQp) (h1 E a w Q (by rw[hn];exact cP hd) hs))
        . exact h.elim
      . rw[if_neg (by simp[hw])];split at h
        . rename_i hd;exact pG hT hn rest h (fp (by rw[hn];exact cP hd) hs) hQ hQp
        . exact h.elim
    rw[Ho]at h;refine Km (ji hT hn [o] h hs λst' a' w' hk hs' =>?_);exact pG hT hn rest hk hs' hQ hQp
end
noncomputable def Jz (cx:Cx) (pv:Int->Value) (nt:Nat) (fr:List Nat) (Qp:St->Prop) (ops:Array Oper) (draw:Bool) (k:St->Prop) (st:St):Prop :=
 match cD 33333 fr,draw with
 |true,false=>JI cx pv nt Qp ops.toList ops.toList k (st.bw fr)
 |true,true=>bA ops.toList=true/\jN cx pv Qp nt ops.toList k (ops.size+1) [] [] (st.bw fr)
 |false,_=>xJ cx nt fr ops draw k st
def Rq(cx:Cx)(nt:Nat)(id:Nat)(ops:Array Oper)(draw:Bool)(st st1:St):Prop :=
 ∀(E:Env) (a:Act) (w:World) (R:Exit->Act->World->Prop),E.nt=nt->Sim cx E st a w->(∀a' w',Sim cx E st1 a' w' ->R .normal a' w')->(Code.region id ops draw).wp cx.P R a w
noncomputable def vcp (cx:Cx) (fre:List Nat) (pv:Int->Value) (nt:Nat) (fz:Nat->List Nat) (Qp:St->Prop):Code->(Ex->St->Prop)->St->Prop
 | .skip,Q,st=>Q .normal st
 | .label _,Q,st=>Q .normal st
 | .seq a b,Q,st=>vcp cx fre pv nt fz Qp a (λe s=>match e with| .normal=>vcp cx fre pv nt fz Qp b Q s| .exit id=>Q (.exit id) s| .ret=>Q .ret s) st
 | .cond c a b,Q,st=>(match st.ev cx c with
  | .d (.bool t)=>qv t (vcp cx fre pv nt fz Qp a Q st) (vcp cx fre pv nt fz Qp b Q st)
  | .maybe p=>(p=true->vcp cx fre pv nt fz Qp a Q st)/\vcp cx fre pv nt fz Qp b Q st
  |_=>False)
 | .block id body,Q,st=>vcp cx fre pv nt fz Qp body (λe s=>match e with| .normal=>Q .normal s| .exit j=>(match Nat.beq j id with|true=>Q .normal s|false=>Q (.exit j) s)| .ret=>Q .ret s) st
 | .loop body, Q, st => ∃ (α : Type) (f : α -> St) (J : α -> Prop) (μ : α -> Nat), (∃ x, J x /\ ah cx fre st (f x)) /\
     ∀x,J x->vcp cx fre pv nt fz Qp body (λe s=>match e with| .normal=> ∃y,J y/\μ y<μ x/\ah cx fre s (f y)| .exit j=>Q (.exit j) s| .ret=>Q .ret s) (f x)
 | .exit id,Q,st=>Q (.exit id) st
 | .ret,Q,st=>Q .ret st
 | .region id ops draw,Q,st=>(match cD 77777 (fz id)with
  |true=> ∃st1,Rq cx nt id ops draw st st1/\Q .normal st1
  |false=>(match cD 55555 (fz id)with
   |true=> ∃st',ah cx fre st st' /\Jz cx pv nt (fz id) Qp ops draw (Q .normal) st'
   |false=>Jz cx pv nt (fz id) Qp ops draw (Q .normal) st))
 | .scope c,Q,st=>vcp cx fre pv nt fz Qp c Q st
 |_,_,_=>False
theorem QW{cx:Cx}{nt:Nat}{fr:List Nat}(hT:ba cx)(hm:cx.P.follows .mixedOrders=true){E:Env}(hn:E.nt=nt){id:Nat}{ops:Array Oper}{draw:Bool}{k:St->Prop}{st:St}{a:Act}{w:World}{R:Exit->Act->World->Prop}
 (h:xJ cx nt fr ops draw k st) (hs:Sim cx E st a w) (hR:∀st' a' w',k st' ->Sim cx E st' a' w' ->R .normal a' w'):(Code.region id ops draw).wp cx.P R a w:=by
 unfold xJ at h;cases draw with
 |false =>
  simp only at h;cases hb:cD 88888 fr with
  |true=>rw[hb]at h;exact wp_region_list (ji hT hn ops.toList h (hs.bw _) hR)
  |false=>rw[hb]at h;exact wp_region_list (pF hT hn ops.toList h (hs.bw _) hR)
 |true =>
  simp only at h;cases hany:cD 99999 fr with
  |true=>rw[hany]at h;exact GA hT hm hn h (hs.bw _) hR
  |false =>
   rw[hany]at h;simp only at h;cases hv:cD 66666 fr with
   |true=>rw[hv]at h;exact Fc hT hm hn h.1 h.2 (hs.bw _) hR
   |false=>rw[hv]at h;exact Dv hT hm hn h (hs.bw _) hR
theorem zN{cx:Cx}{fre:List Nat}{pv:Int->Value}{nt:Nat}{fz:Nat->List Nat}{Qp:St->Prop}(hT:ba cx)(hm:cx.P.follows .mixedOrders=true){E:Env}(hn:E.nt=nt)(hfre:xV fre E):∀(c:Code) {Q:Ex->St->Prop} {st:St} {a:Act} {w:World} {R:Exit->Act->World->Prop},vcp cx fre pv nt fz Qp c Q st->Sim cx E st a w ->
 (∀e st' a' w',Q e st' ->Sim cx E st' a' w' ->R e.out a' w')->(∀st1 a' w' (e:Int),e≠0->Qp st1->Sim cx E st1 a' w' ->R (.panic [{v:=pv e,recovered:=false}]) a' w')->c.wp cx.P R a w:=by
 intro c;induction c with
 |skip=>intro Q st a w R h hs hR hP;exact wp_skip (hR .normal st a w h hs)
 |label l=>intro Q st a w R h hs hR hP;exact wp_label (hR .normal st a w h hs)
 |exit id=>intro Q st a w R h hs hR hP;exact wp_exit (hR (.exit id) st a w h hs)
 |ret=>intro Q st a w R h hs hR hP;exact wp_ret (hR .ret st a w h hs)
 |seq x y ihx ihy =>
  intro Q st a w R h hs hR hP;refine wp_seq (ihx (R:=Exit.then (y.wp cx.P R) R) h hs (λe st' a' w' hq hs' =>?_) λst1 a' w' e he hq hs' =>hP st1 a' w' e he hq hs');cases e with
  |normal=>exact ihy hq hs' hR hP
  |exit id=>exact hR (.exit id) st' a' w' hq hs'
  |ret=>exact hR .ret st' a' w' hq hs'
 |cond c x y ihx ihy =>
  intro Q st a w R h hs hR hP;simp only[vcp]at h;split at h
  . rename_i t ht;have hr:a.eval c= .bool t:=by
     obtain⟨σ,hs⟩:=hs;have:=hs.ev (St.le.refl st) c;rw[ht]at this;exact this.bool
    cases t with
    |true=>exact wp_cond_true hr (ihx h hs hR hP)
    |false=>exact wp_cond_false hr (ihy h hs hR hP)
  . rename_i p ht;have hr:∃t,a.eval c= .bool t/\(t=true->p=true):=by
     obtain⟨σ,hs⟩:=hs;have:=hs.ev (St.le.refl st) c;rw[ht]at this;generalize a.eval c=u at this;cases this with|maybe _ b hb=>exact⟨b,rfl,hb⟩
    obtain⟨t,hr,hp⟩:=hr;cases t with
    |true=>exact wp_cond_true hr (ihx (h.1 (hp rfl)) hs hR hP)
    |false=>exact wp_cond_false hr (ihy h.2 hs hR hP)
  . exact h.elim
 |block id body ih =>
  intro Q st a w R h hs hR hP;refine wp_block (ih (R:=Exit.inBlock id R) h hs (λe st' a' w' hq hs' =>?_) λst1 a' w' e he hq hs' =>hP st1 a' w' e he hq hs');cases e with
  |normal=>exact hR .normal st' a' w' hq hs'
  |exit j =>
   dsimp only at hq;split at hq
   . rename_i hj;have hj:=aO hj;simp only[Ex.out,Exit.inBlock,hj,if_true];exact hR .normal st' a' w' hq hs'
   . rename_i hj;have hj:j≠id:=λe=>by subst e;simp at hj
     simp only[Ex.out,Exit.inBlock,hj,if_false];exact hR (.exit j) st' a' w' hq hs'
  |ret=>exact hR .ret st' a' w' hq hs'
 |loop body ih =>
  intro Q st a w R h hs hR hP;obtain⟨α,f,J,μ,⟨x,hx,hw⟩,hround⟩:=h;refine wp_loop_ghost (λn a w=> ∃y,J y/\μ y=n/\Sim cx E (f y) a w) (μ x) ⟨x,hx,rfl,hw E a w hfre hs⟩ ?_;rintro n a w ⟨y,hy,rfl,hs'⟩;refine ih (hround y hy) hs' (λe st' a' w' hq hs'' =>?_) λst1 a' w' e he hq hs' =>hP st1 a' w' e he hq hs'
  cases e with
  |normal =>
   obtain⟨z,hz,hlt,hw'⟩:=hq;exact⟨μ z,hlt,z,hz,rfl,hw' E a' w' hfre hs''⟩
  |exit j=>exact hR (.exit j) st' a' w' hq hs''
  |ret=>exact hR .ret st' a' w' hq hs''
 |region id ops draw =>
  intro Q st a w R h hs hR hP;simp only[vcp]at h;have key:∀{st:St},Jz cx pv nt (fz id) Qp ops draw (Q .normal) st->Sim cx E st a w->(Code.region id ops draw).wp cx.P R a w:=by
   intro st h hs;unfold Jz at h;split at h
   . exact wp_region_list (pG hT hn ops.toList h (hs.bw _) (λst' a' w' hk hs' =>hR .normal st' a' w' hk hs') hP)
   . exact Pm hT hm hn h.1 h.2 (hs.bw _) (λst' a' w' hk hs' =>hR .normal st' a' w' hk hs') hP
   . exact QW hT hm hn h hs λst' a' w' hk hs' =>hR .normal st' a' w' hk hs'
  cases hz:cD 77777 (fz id)with
  |true=>rw[hz]at h;obtain⟨st1,h1,h2⟩:=h;exact h1 E a w R hn hs λa' w' hs' =>hR .normal st1 a' w' h2 hs'
  |false =>
   rw[hz]at h;simp only at h;cases hw:cD 55555 (fz id)with
   |true=>rw[hw]at h;obtain⟨st',h1,h2⟩:=h;exact key h2 (h1 E a w hfre hs)
   |false=>rw[hw]at h;exact key h hs
 |scope c ih =>
  intro Q st a w R h hs hR hP;refine wp_scope_straight (ih (R:=Exit.noGoto R) h hs (λe st' a' w' hq hs' =>?_) λst1 a' w' e he hq hs' =>hP st1 a' w' e he hq hs');cases e <;> exact hR _ st' a' w' hq hs'
 |_=>intro Q st a w R h;exact h.elim
theorem yH{cx:Cx}{st:St}{E:Env}{σ:Nat->Value}{a:Act}{w:World}(hs:bq cx E st σ a w){bs:List (Nat×Blk)}(h2:pc st bs bs):Holds w E.F E.O bs σ:=by
 obtain⟨σ',hs'⟩:∃σ',σ' =σ/\bq cx E ⟨[],bs⟩ σ' a w:=by
  have hL:∀s,live bs s->live st.heap s:=λs hl=>by
   obtain⟨b,hb⟩:=ax.1 hl;exact ax.2 ⟨b,(gH h2 s b hb).1⟩
  refine⟨σ,rfl,?_⟩;have hk:aU w w (Own E.O (live st.heap) σ) (Own E.O (live bs) σ):=aU.less λb hb=>by
   rcases hb with hb|⟨s,hs,e⟩
   . exact .inl hb
   . exact .inr ⟨s,hL s hs,e⟩
  refine⟨hs.frame,hs.new,hs.apart,hs.defers,hs.nt,λt=> .undef _,⟨λs b hb=>?_,λs s' b l l' e e' =>hs.holds.inj s s' b (hL s l) (hL s' l') e e'⟩,hs.glob,hs.globF,λq0 B hB=>⟨(hs.fix q0 B hB).1,λh=>(hs.fix q0 B hB).2 (hL _ h)⟩⟩;obtain⟨e1,e2⟩:=gH h2 s b hb;have hold:=hs.holds.blk s b e1;cases b with
  |box cells =>
   obtain⟨g,cur,t,p1,p2,p3,p4,p5⟩:=hold;exact⟨g,cur,t,p1,p2,p3,p4,λj c hj=>⟨(p5 j c hj).1,jH hL (p5 j c hj).2 (ay.1 e2 c (ar hj))⟩⟩
  |row e size rows fl =>
   obtain⟨xs,p1,p2,p3,p4,p5⟩:=hold;refine⟨xs,p1,p2,p3,p4,λi r j d hi hj=>?_⟩;obtain⟨u,hu,hd⟩:=p5 i r j d hi hj;exact⟨u,hu,hd.mono hk⟩
  |smap m =>
   obtain⟨g,es,cl,p1,p2,p3,p4,p5⟩:=hold;refine⟨g,es,cl,p1,p2,p3,p4,λj k v hj=>?_⟩;obtain⟨e,he,q1,q2⟩:=p5 j k v hj;exact⟨e,he,q1.mono hk,q2.mono hk⟩
  |kmap m=>obtain⟨g,es,cl,p1,p2,p3,p4⟩:=hold;exact⟨g,es,cl,p1,p2,p3,p4.mono λ_ _ h=>h.mono hk⟩
  |arow e size rows =>
   obtain⟨g,cur,t,p1,p2,p3,p4,p5⟩:=hold;exact⟨g,cur,t,p1,p2,p3,p4,λi r j c hi hj=>⟨(p5 i r j c hi hj).1,jH hL (p5 i r j c hi hj).2 (ay.1 (ay.1 e2 r (ar hi)) c (ar hj))⟩⟩
  |tail e size rows=>exact⟨hold.1.mono (λ_ _=>rfl) λ_ _ hr=>hr.mono hk,hold.2⟩
  |iter left cur=>exact⟨hold.1.mono (λ_ _=>rfl) hk,hold.2⟩
  |dg m =>
   obtain⟨g,es,cl,p1,p2,p3,p4,p5⟩:=hold;exact⟨g,es,cl,p1,p2,p3,p4,λj k v hj=>by obtain⟨e,he,q1,q2⟩:=p5 j k v hj;exact⟨e,he,q1,jH hL q2 (ay.1 e2 _ (ar hj))⟩⟩
 obtain⟨rfl,hs'⟩:=hs';exact hs'.holds
def dn1:AV->AV
 | .nil sz=> .d (.slice sz [])
 |v=>v
def dn2:AV->AV
 | .agg cs=> .agg (cs.map dn1)
 |v=>dn1 v
def dn3:AV->AV
 | .tuple vs=> .tuple (vs.map dn2)
 |v=>dn2 v
section
variable {w:World} {O L:Nat->Prop} {σ:Nat->Value}
theorem GO{c:AV}{v:Value}(h:au w O L σ c v):au w O L σ (dn1 c) v:=by
 cases c <;> first|exact h|(cases h;exact .d _ _ (.empty _ _ _))
theorem vE{c:AV}{v:Value}(h:au w O L σ c v):au w O L σ (dn2 c) v:=by
 cases c with
 |agg cs=>cases h with|agg _ vs hl hh=>exact .agg _ _ (by simpa using hl) (eM (λc v=>GO) hh)
 |_=>exact GO h
theorem GP{c:AV}{v:Value}(h:au w O L σ c v):au w O L σ (dn3 c) v:=by
 cases c with
 |tuple cs=>cases h with|tuple _ vs hl hh=>exact .tuple _ _ (by simpa using hl) (eM (λc v=>vE) hh)
 |_=>exact vE h
end
def uZ(cx:Cx)(fre:List Nat)(rs:List ResultVar)(out:Option (AV×List (Nat×Blk)))(st:St):Prop:=match out with
 |some (x,h')=>(∃sl,ah cx fre st ⟨sl,h'⟩/\lG cx ⟨sl,h'⟩ rs=some x)\/(∃st',ah cx fre st st' /\lG cx st' rs=some x/\qU h' x=true/\pc st' h' h')\/ ∃st' v0,ah cx fre st st' /\lG cx st' rs=some v0/\dn3 v0=x/\qU h' x=true/\pc st' h' h'
 |none=>False
def mT(cx:Cx)(fre:List Nat)(rs:List ResultVar)(out:Option (AV×List (Nat×Blk))):Ex->St->Prop
 | .normal,st=>uZ cx fre rs out st
 | .ret,st=>uZ cx fre rs out st
 | .exit _,_=>False
theorem aT{cx:Cx}{pv:Int->Value}(fre:List Nat)(fz:Nat->List Nat)(hT:ba cx)(hm:cx.P.follows .mixedOrders=true){f:FuncId}{fn:Func}{c:Code}{args:List AV}{h0:List (Nat×Blk)}{out:Option (AV×List (Nat×Blk))}(hf:cx.P.funcs[f]? =some fn)(hname:(fn.name== "runtime.NumGoroutine")=false)(hb:fn.body=some c)
 (hargs:args.length<=fn.ntmps) (hnt:fn.ntmps<=100000) (hfr0:fre.all (λq=> !dF (cg h0) q)=true) (h:vcp cx fre pv fn.ntmps fz (λ_=>out=none) c (mT cx fre fn.results.toList out) ⟨jk 0 args,h0⟩):FnP cx pv f args h0 out:=by
 refine⟨⟨fn,hf,hname,by rw[hb];rfl⟩,λO w σ vs hO hG hGO hap hho hsz hrep=>?_⟩;refine calls_of_wp hf hb ?_
 let E:Env:=⟨λb=>di h0 σ b\/w.heap.size<=b,O,w,fn.ntmps,λq=>if q∈cg h0 then(match σ q with| .pointer (some ⟨B,0,none⟩)=>some B|_=>none)else none,[]⟩
 have hfixv:∀q B,E.fix q=some B->q∈cg h0/\σ q= .pointer (some ⟨B,0,none⟩):=by
  intro q B hq;have hq:(if q∈cg h0 then(match σ q with| .pointer (some ⟨B,0,none⟩)=>some B|_=>none)else none)=some B:=hq;split at hq
  . rename_i hm;split at hq
    . rename_i B' e;cases hq;exact⟨hm,e⟩
    . cases hq
  . cases hq
 have hs:Sim cx E ⟨jk 0 args,h0⟩ {tmps:=vs++Array.replicate (fn.ntmps-vs.size) Go.undef,defers:=[]} w:=by
  refine⟨σ,⟨rfl,rfl,rfl,Nat.le_refl _,λ_ _=>rfl⟩,λb hb=> .inr hb,λb hb hF=>?_,rfl,?_,λt=>?_,⟨λs b hs=>(hho.blk s b hs).inF λg hg=> .inl ⟨s,ax.2 ⟨b,hs⟩,hg⟩,hho.inj⟩,hG,λg cells hg=>⟨λhF=>?_,(hGO g cells hg).1⟩,λq0 B hB=>?_⟩
  . rcases hF with hF|hF
    . exact hap b hb hF
    . have:=hO b hb;omega
  . show(vs++Array.replicate _ Go.undef).size=fn.ntmps
    simp;omega
  . have hg:St.get ⟨jk 0 args,h0⟩ t=match args[t]? with|some v=>v|none=> .undef:=by
     unfold St.get;rw[ny,if_pos (Nat.zero_le _),Nat.sub_zero];cases args[t]? <;> rfl
    rw[hg];cases ht:args[t]? with
    |none=>exact .undef _
    |some x =>
     have hlt:t<vs.size:=by rw[hsz];exact(aq.1 ht).1
     have:(vs++Array.replicate (fn.ntmps-vs.size) Go.undef).getD t Go.undef=vs.getD t Go.undef:=by simp[Array.getElem?_append,hlt]
     rw[this];exact hrep t x ht
  . rcases hF with hF|hF
    . exact(hGO g cells hg).2 hF
    . have:=(hG g cells hg).1;omega
  . obtain⟨h1,h2⟩:=hfixv q0 B hB;exact⟨⟨hnt,(jd h1).1⟩,λ_=>h2⟩
 have hasN_of:∀{l:List Nat} {i:Nat},i∈l->dF l i=true:=by
  intro l;induction l with
  |nil=>intro i h;cases h
  |cons x t ih =>
   intro i h;unfold dF;split
   . rfl
   . rename_i hx;rcases List.mem_cons.1 h with rfl|h
     . simp at hx
     . exact ih h
 have hfre:xV fre E:=λq hq=>by
  have h1:=ay.1 hfr0 q hq;show(if q∈cg h0 then(match σ q with| .pointer (some ⟨B,0,none⟩)=>some B|_=>none)else none)=none
  refine if_neg λhm=>?_
  rw[hasN_of hm]at h1;cases h1
 refine zN hT hm (E:=E) rfl hfre c h hs (λex st' a' w' hq hs' =>?_) λst1 a' w' e he hq hs' =>?_
 . have key:∀st',uZ cx fre fn.results.toList out st' ->Sim cx E st' a' w' ->a'.defers=[]/\ ∃u,(results fn a'.tmps).run cx.P w' = .ok u w' /\rO (λb=>di h0 σ b\/w.heap.size<=b) w w' /\Rp pv (λb=>di h0 σ b\/w.heap.size<=b) O h0 σ w' (.returned u) out:=by
    intro st2 hret hs1;unfold uZ at hret;split at hret
    . rename_i x h';rcases hret with hret|⟨st3,hw,hr,hx,hkp⟩|⟨st3,v0,hw,hr,rfl,hx,hkp⟩
      . obtain⟨sl,hw,hr⟩:=hret;obtain⟨τ',hs3⟩:=hw E a' w' hfre hs1;obtain⟨u,hu,hru⟩:=nJ hT hs3 hr;refine⟨hs3.defers,u,hu,hs3.frame,u,τ',rfl,hs3.holds,λs hs hl=>?_,hru⟩;obtain⟨_,cells,hc⟩:=jd hs;obtain⟨B,cur,t,e1,_⟩:=hho.blk s _ hc;have:E.fix s=some B:=by
         show(if s∈cg h0 then(match σ s with| .pointer (some ⟨B,0,none⟩)=>some B|_=>none)else none)=some B
         rw[if_pos hs,e1];rfl
        rw[(hs3.fix s B this).2 hl,e1]
      . obtain⟨τ',hs3⟩:=hw E a' w' hfre hs1;obtain⟨u,hu,hru⟩:=nJ hT hs3 hr;refine⟨hs3.defers,u,hu,hs3.frame,u,τ',rfl,yH hs3 hkp,λs hs hl=>?_,uY (λs hl=>?_) hru hx⟩
        . obtain⟨_,cells,hc⟩:=jd hs;obtain⟨B,cur,t,e1,_⟩:=hho.blk s _ hc;have:E.fix s=some B:=by
           show(if s∈cg h0 then(match σ s with| .pointer (some ⟨B,0,none⟩)=>some B|_=>none)else none)=some B
           rw[if_pos hs,e1];rfl
          obtain⟨b,hb⟩:=ax.1 hl;rw[(hs3.fix s B this).2 (ax.2 ⟨b,(gH hkp s b hb).1⟩),e1]
        . obtain⟨b,hb⟩:=ax.1 hl;exact ax.2 ⟨b,(gH hkp s b hb).1⟩
      . obtain⟨τ',hs3⟩:=hw E a' w' hfre hs1;obtain⟨u,hu,hru⟩:=nJ hT hs3 hr;refine⟨hs3.defers,u,hu,hs3.frame,u,τ',rfl,yH hs3 hkp,λs hs hl=>?_,uY (λs hl=>?_) (GP hru) hx⟩
        . obtain⟨_,cells,hc⟩:=jd hs;obtain⟨B,cur,t,e1,_⟩:=hho.blk s _ hc;have:E.fix s=some B:=by
           show(if s∈cg h0 then(match σ s with| .pointer (some ⟨B,0,none⟩)=>some B|_=>none)else none)=some B
           rw[if_pos hs,e1];rfl
          obtain⟨b,hb⟩:=ax.1 hl;rw[(hs3.fix s B this).2 (ax.2 ⟨b,(gH hkp s b hb).1⟩),e1]
        . obtain⟨b,hb⟩:=ax.1 hl;exact ax.2 ⟨b,(gH hkp s b hb).1⟩
    . exact hret.elim
   cases ex with
   |normal=>exact key st' hq hs'
   |ret=>exact key st' hq hs'
   |exit id=>exact hq.elim
 . subst hq;obtain⟨τ',hs3⟩:=hs';exact⟨hs3.defers,hs3.frame,e,he,rfl⟩
def dQ(s t x:Nat):Nat:=match Nat.beq x s with|true=>t|false=>x
theorem qM(s t:Nat):dQ s t s=t:=by simp[dQ]
theorem sg{s t x:Nat}(h:x≠s):dQ s t x=x:=by
 have:Nat.beq x s=false:=by rw[<- Bool.not_eq_true];exact λe=>h (aO e)
 simp[dQ,this]
def yR(s t:Nat):AV->AV
 | .ptr x off=> .ptr (dQ s t x) off
 | .own x=> .own (dQ s t x)
 | .rptr x a b c=> .rptr (dQ s t x) a b c
 | .tl x a b=> .tl (dQ s t x) a b
 | .omap x=> .omap (dQ s t x)
 | .d y=> .d y
 | .nil z=> .nil z
 | .maybe p=> .maybe p
 |_=> .undef
def qO(s t:Nat):AV->AV
 | .agg cs=> .agg (cs.map (yR s t))
 | .fn f a b=> .fn f (a.map (yR s t)) (b.map (yR s t))
 |v=>yR s t v
def Ot(s t:Nat):AV->AV
 | .tuple vs=> .tuple (vs.map (qO s t))
 |v=>qO s t v
def uU(s t:Nat):Blk->Blk
 | .box cells=> .box (cells.map (qO s t))
 | .arow e z rows=> .arow e z (rows.map λr=>r.map (qO s t))
 | .dg m=> .dg (m.map λp=>(p.1,qO s t p.2))
 |b=>b
def St.name(st:St)(s t:Nat):St:=⟨st.slots.map λp=>(p.1,Ot s t p.2),st.heap.map λp=>(dQ s t p.1,uU s t p.2)⟩
theorem DE{s t:Nat}:∀{hp:List (Nat×Blk)},(∀p∈hp,p.1≠t)->(∀(x:Nat) (b:Blk),find hp x=some b->find (hp.map λp=>(dQ s t p.1,uU s t p.2)) (dQ s t x)=some (uU s t b)) /\
 (∀(q:Nat) (b' :Blk),find (hp.map λp=>(dQ s t p.1,uU s t p.2)) q=some b' -> ∃x b,find hp x=some b/\q=dQ s t x/\b' =uU s t b)
 |[],_=>⟨λ_ _ h=>(by cases h),λ_ _ h=>(by cases h)⟩
 |(k,y)::r,hall=>by
  obtain⟨i1,i2⟩:=DE (s:=s) (t:=t) (hp:=r) λp hp=>hall p (aZ _ hp)
  have hk:k≠t:=hall (k,y) (List.mem_cons_self ..);have hne:∀{hp:List (Nat×Blk)} {x b},find hp x=some b->(∀p∈hp,p.1≠t)->x≠t:=by
   intro hp;induction hp with
   |nil=>intro x b h;cases h
   |cons p r ih =>
    intro x b h ha;by_cases e:p.1=x
    . exact e ▸ ha p (List.mem_cons_self ..)
    . rw[show p=(p.1,p.2)from rfl,aQ _ _ e]at h;exact ih h λp hp=>ha p (aZ _ hp)
  have inj:∀{x y:Nat},x≠t->y≠t->dQ s t x=dQ s t y->x=y:=λ{x y} hx hy e=>by
   by_cases e1:x=s
   . subst e1;rw[qM]at e;by_cases e2:y=x
     . exact e2.symm
     . rw[sg e2]at e;exact absurd e.symm hy
   . rw[sg e1]at e;by_cases e2:y=s
     . subst e2;rw[qM]at e;exact absurd e hx
     . rw[sg e2]at e;exact e
  refine⟨λx b h=>?_,λq b' h=>?_⟩
  . by_cases e:k=x
    . subst e;rw[aP]at h;cases h;exact aP ..
    . have hs:=hne h hall;rw[aQ _ _ e]at h;show find ((dQ s t k,uU s t y)::_) (dQ s t x)=_
      rw[aQ _ _ λe2=>e (inj hk hs e2)];exact i1 x b h
  . have h:find ((dQ s t k,uU s t y)::(r.map λp=>(dQ s t p.1,uU s t p.2))) q=some b' :=h;by_cases e:dQ s t k=q
    . subst e;rw[aP]at h;cases h;exact⟨k,y,aP .., rfl,rfl⟩
    . rw[aQ _ _ e]at h;obtain⟨x,b,h1,h2,h3⟩:=i2 q b' h;refine⟨x,b,?_,h2,h3⟩;rw[aQ _ _ λe2=>e (by rw[e2,h2])];exact h1
section
variable {w:World} {O L L' :Nat->Prop} {σ σ' :Nat->Value} {s t:Nat}
theorem qN(hk:aU w w (Own O L σ) (Own O L' σ'))(hL:∀x,L x->L' (dQ s t x)/\σ' (dQ s t x)=σ x){c:AV}{v:Value}(h:au w O L σ c v):au w O L' σ' (yR s t c) v:=by
 cases h with
 |undef=>exact .undef _
 |d y v h=>exact .d _ _ (h.mono hk)
 |nil=>exact .nil _
 |maybe p b h=>exact .maybe p b h
 |ptr x off b hl h=>exact .ptr _ _ b (hL x hl).1 ((hL x hl).2.trans h)
 |own x hl=>rw[<- (hL x hl).2];exact .own _ (hL x hl).1
 |rptr x size i off b n cap o0 hl h=>exact .rptr _ _ _ _ b n cap o0 (hL x hl).1 ((hL x hl).2.trans h)
 |tl x size i b n cap o0 hl h=>exact .tl _ _ _ b n cap o0 (hL x hl).1 ((hL x hl).2.trans h)
 |omap x hl=>rw[<- (hL x hl).2];exact .omap _ (hL x hl).1
 |agg=>exact .undef _
 |tuple=>exact .undef _
 |fn=>exact .undef _
theorem oB(hk:aU w w (Own O L σ) (Own O L' σ'))(hL:∀x,L x->L' (dQ s t x)/\σ' (dQ s t x)=σ x){c:AV}{v:Value}(h:au w O L σ c v):au w O L' σ' (qO s t c) v:=by
 cases c with
 |agg cs=>cases h with|agg _ vs hl hh=>exact .agg _ _ (by simpa using hl) (eM (λc v=>qN hk hL) hh)
 |fn f a b=>cases h with|fn _ _ _ xs vs hxs hl h1 h2=>exact .fn _ _ _ _ _ (by simpa using hxs) (by simpa using hl) (eM (λc v=>qN hk hL) h1) (eM (λc v=>qN hk hL) h2)
 |_=>exact qN hk hL h
theorem Ou(hk:aU w w (Own O L σ) (Own O L' σ'))(hL:∀x,L x->L' (dQ s t x)/\σ' (dQ s t x)=σ x){c:AV}{v:Value}(h:au w O L σ c v):au w O L' σ' (Ot s t c) v:=by
 cases c with
 |tuple vs=>cases h with|tuple _ us hl hh=>exact .tuple _ _ (by simpa using hl) (eM (λc v=>oB hk hL) hh)
 |_=>exact oB hk hL h
theorem Br{c:AV}(h:c.one=true\/c= .undef):(qO s t c).one=true\/qO s t c= .undef:=by
 rcases h with h|rfl
 . cases c <;> first|exact .inl h|exact .inl rfl|cases h
 . exact .inr rfl
end
theorem ah.name{cx:Cx}{fre:List Nat}{st:St}(s t:Nat)(hnt:st.heap.all (λp=> !Nat.beq p.1 t)=true)(hfr:(Nat.blt t 100000||dF fre t)=true):ah cx fre st (st.name s t):=by
 rintro E a w hfre ⟨σ,hs⟩;have hnt' :∀p∈st.heap,p.1≠t:=λp hp e=>by
  have:=ay.1 hnt p hp;rw[e]at this;simp at this
 obtain⟨f1,f2⟩:=DE (s:=s) (t:=t) hnt';have hlt:∀x,live st.heap x->x≠t:=λx hl=>by
  obtain⟨b,hb⟩:=ax.1 hl;exact hnt' _ (dP hb)
 obtain⟨σ',hσ'⟩:∃σ' :Nat->Value,σ' =λq=>if q=t then σ s else σ q:=⟨_,rfl⟩
 have hL:∀x,live st.heap x->live (st.name s t).heap (dQ s t x)/\σ' (dQ s t x)=σ x:=λx hl=>by
  obtain⟨b,hb⟩:=ax.1 hl;refine⟨ax.2 ⟨_,f1 x b hb⟩,?_⟩;rw[hσ'];by_cases e:x=s
  . subst e;rw[qM];exact if_pos rfl
  . rw[sg e];exact if_neg (hlt x hl)
 have hL' :∀q,live (st.name s t).heap q-> ∃x,live st.heap x/\q=dQ s t x:=λq hq=>by
  obtain⟨b,hb⟩:=ax.1 hq;obtain⟨x,b0,h1,h2,_⟩:=f2 q b hb;exact⟨x,ax.2 ⟨b0,h1⟩,h2⟩
 have hk:aU w w (Own E.O (live st.heap) σ) (Own E.O (live (st.name s t).heap) σ'):=aU.less λb hb=>by
  rcases hb with hb|⟨q,hq,e⟩
  . exact .inl hb
  . obtain⟨x,h1,rfl⟩:=hL' q hq;exact .inr ⟨x,h1,by rw[<- (hL x h1).2];exact e⟩
 refine⟨σ',hs.frame,hs.new,hs.apart,hs.defers,hs.nt,λu=>?_,⟨λq b hb=>?_,λq q' b lq lq' =>?_⟩,hs.glob,hs.globF,λq0 B hB=>⟨(hs.fix q0 B hB).1,λhl=>?_⟩⟩
 . have hg:(st.name s t).get u=Ot s t (st.get u):=by
    simp only[St.get,St.name,kM];cases find st.slots u <;> rfl
   rw[hg];exact Ou hk hL (hs.slots u)
 . obtain⟨x,b0,h1,rfl,rfl⟩:=f2 q b hb;have hl:live st.heap x:=ax.2 ⟨b0,h1⟩;have hold:=hs.holds.blk x b0 h1;have hσ:σ' (dQ s t x)=σ x:=(hL x hl).2;cases b0 with
   |box cells =>
    obtain⟨g,cur,ty,p1,p2,p3,p4,p5⟩:=hold;refine⟨g,cur,ty,hσ.trans p1,p2,p3,by simpa using p4,λj c hj=>?_⟩;rw[aN]at hj;cases hc:cells[j]? with
    |none=>rw[hc]at hj;cases hj
    |some y =>
     rw[hc]at hj;cases hj;exact⟨Br (p5 j y hc).1,oB hk hL (p5 j y hc).2⟩
   |row e size rows fl =>
    obtain⟨xs,p1,p2,p3,p4,p5⟩:=hold;refine⟨xs,(by rw[hσ];exact p1),λb hb=>p2 b (by rw[<- hσ];exact hb),⟨p3.1,λh=>(by rw[hσ];exact p3.2 h)⟩,p4,λi r j d hi hj=>?_⟩;obtain⟨u,u1,u2⟩:=p5 i r j d hi hj;exact⟨u,u1,u2.mono hk⟩
   |smap m =>
    obtain⟨g,es,clock,p1,p2,p3,p4,p5⟩:=hold;refine⟨g,es,clock,hσ.trans p1,p2,p3,p4,λj k v hj=>?_⟩;obtain⟨e,e1,e2,e3⟩:=p5 j k v hj;exact⟨e,e1,e2.mono hk,e3.mono hk⟩
   |kmap m =>
    obtain⟨g,es,clock,p1,p2,p3,p4⟩:=hold;exact⟨g,es,clock,hσ.trans p1,p2,p3,p4.mono λ_ _ h=>h.mono hk⟩
   |arow e size rows =>
    obtain⟨g,cur,ty,p1,p2,p3,p4,p5⟩:=hold;refine⟨g,cur,ty,by simpa using hσ.trans p1,p2,p3,λr hr=>?_,λi r j c hi hj=>?_⟩
    . obtain⟨r0,h0,rfl⟩:=List.mem_map.1 hr;rw[ao];exact p4 r0 h0
    . obtain⟨r0,c0,q1,q2,rfl⟩:=xL hi hj;obtain⟨⟨q3,q4⟩,q5⟩:=p5 i r0 j c0 q1 q2;exact⟨⟨Br q3,q4⟩,oB hk hL q5⟩
   |tail e size rows =>
    show gS w _ e size rows (σ' (dQ s t x))/\_
    rw[hσ];exact⟨hold.1.mono (λ_ _=>rfl) λ_ _ hr=>hr.mono hk,hold.2⟩
   |iter left cur =>
    show oc w _ left cur (σ' (dQ s t x))/\_
    rw[hσ];exact⟨hold.1.mono (λ_ _=>rfl) hk,hold.2⟩
   |dg m =>
    obtain⟨g,es,clock,p1,p2,p3,p4,p5⟩:=hold;refine⟨g,es,clock,hσ.trans p1,p2,p3,by rw[ao];exact p4,λj k v hj=>?_⟩;obtain⟨v0,hj0,rfl⟩:=sy hj;obtain⟨e,e1,e2,e3⟩:=p5 j k v0 hj0;exact⟨e,e1,e2,oB hk hL e3⟩
 . intro e e';obtain⟨x,h1,rfl⟩:=hL' q lq;obtain⟨x',h1',rfl⟩:=hL' q' lq';rw[hs.holds.inj x x' b h1 h1' (by rw[<- (hL x h1).2];exact e) (by rw[<- (hL x' h1').2];exact e')]
 . obtain⟨x,h1,rfl⟩:=hL' q0 hl;by_cases e:x=s
   . subst e;rw[qM]at hB hl ⊢;exfalso;rw[Bool.or_eq_true]at hfr;rcases hfr with h|h
     . have h1:=(hs.fix t B hB).1.2;have h2:t<100000:=Nat.lt_of_succ_le (ag h);omega
     . rw[hfre t (iS h)]at hB;cases hB
   . rw[(hL x h1).2];rw[sg e]at hB;exact(hs.fix x B hB).2 h1
theorem aF.JT{cx:Cx}{st:St}(s:Nat)(b0 b1:Blk)(hf:find st.heap s=some b0)(hcv:∀(w:World) (F O L:Nat->Prop) (σ:Nat->Value),cw w F O L σ s b0->cw w F O L σ s b1):aF cx st ⟨st.slots,(s,b1)::st.heap⟩:=by
 rintro E a w ⟨σ,hs⟩;have hl0:live st.heap s:=ax.2 ⟨_,hf⟩;have hL:live ((s,b1)::st.heap)=live st.heap:=eu hl0;refine⟨σ,hs.frame,hs.new,hs.apart,hs.defers,hs.nt,λq=>?_,⟨λx b hb=>?_,λx y b l l' f f' =>?_⟩,hs.glob,hs.globF,λq0 B hB=>⟨(hs.fix q0 B hB).1,λh=>?_⟩⟩
 . show au w E.O (live ((s,b1)::st.heap)) σ (st.get q) _
   rw[hL];exact hs.slots q
 . show cw w E.F E.O (live ((s,b1)::st.heap)) σ x b
   rw[hL];have hb' :find ((s,b1)::st.heap) x=some b:=hb;rw[eG]at hb';split at hb'
   . rename_i hx;subst hx;cases hb';exact hcv _ _ _ _ _ (hs.holds.blk _ _ hf)
   . exact hs.holds.blk x b hb'
 . have l:live ((s,b1)::st.heap) x:=l;have l' :live ((s,b1)::st.heap) y:=l';rw[hL]at l l';exact hs.holds.inj x y b l l' f f'
 . have h:live ((s,b1)::st.heap) q0:=h;rw[hL]at h;exact(hs.fix q0 B hB).2 h
def amD(m:List (List UInt8×D)):List (List UInt8×AV):=m.map λp=>(p.1,.d p.2)
theorem aF.Mt{cx:Cx}{st:St}(s:Nat)(m:List (List UInt8×D))(hf:find st.heap s=some (.smap m)):aF cx st ⟨st.slots,(s,.dg (amD m))::st.heap⟩:=by
 refine aF.JT s _ _ hf λw F O L σ h=>?_
 obtain⟨g,es,cl,p1,p2,p3,p4,p5⟩:=h;refine⟨g,es,cl,p1,p2,p3,by rw[amD,ao];exact p4,λj k v hj=>?_⟩;obtain⟨v0,hj0,rfl⟩:=sy hj;obtain⟨e,he,hk,hv⟩:=p5 j k v0 hj0;exact⟨e,he,mK hk rfl,.d _ _ hv⟩
theorem aF.LP{cx:Cx}{st:St}(s:Nat)(m:List (List UInt8×D))(hf:find st.heap s=some (.dg (amD m))):aF cx st ⟨st.slots,(s,.smap m)::st.heap⟩:=by
 refine aF.JT s _ _ hf λw F O L σ h=>?_
 obtain⟨g,es,cl,p1,p2,p3,p4,p5⟩:=h;refine⟨g,es,cl,p1,p2,p3,by rw[amD,ao]at p4;exact p4,λj k v hj=>?_⟩;obtain⟨e,he,hk,hv⟩:=p5 j k (.d v) (by rw[amD,aN,hj];rfl);refine⟨e,he,hk.rep,?_⟩;generalize e.val=u at hv;cases hv;assumption
theorem iB{cx:Cx}{pv:Int->Value}{f:FuncId}{args:List D}{x:AV}(h:FnP cx pv f (args.map D.dB) [] (some (x,[]))):Fn cx f args x []:=by
 refine⟨h.1,λO w vs hO hG hGO hsz hrep=>?_⟩;have hnl:∀{s:Nat},¬live ([]:List (Nat×Blk)) s:=λ{s} hl=>by simp[live,find]at hl
 have hH:∀b,¬di [] (λ_=>Value.nilFunc) b:=λb ⟨s,hl,_⟩=>hnl hl
 have hk:aU w w O (Own O (live []) λ_=>Value.nilFunc):=aU.less λb hb=>by
  rcases hb with hb|⟨s,hl,_⟩
  . exact hb
  . exact(hnl hl).elim
 refine(h.2 O w (λ_=> .nilFunc) vs hO hG (λg cells hg=>⟨hGO g cells hg,hH g⟩) (λb _=>hH b) ⟨λs b hb=>by simp[find]at hb,λs s' b hl=>(hnl hl).elim⟩ (by rw[hsz,ao]) (λj c hj=>?_)).mono λen w' =>?_
 . rw[aN]at hj;cases hd:args[j]? with
   |none=>rw[hd]at hj;cases hj
   |some d=>rw[hd]at hj;cases hj;exact gX ((hrep j d hd).mono hk)
 . rintro⟨hf,u,σ',rfl,hh,_,hr⟩;exact⟨u,σ',rfl,⟨hf.os,hf.tape,hf.output,hf.size,λb hb=>hf.block b λhh=>hh.elim (hH b) λh=>by omega⟩,⟨λs b hb=>by simp[find]at hb,λs s' b hl=>(hnl hl).elim⟩,hr⟩
theorem ah.keep{cx:Cx}{fre:List Nat}{st:St}{sl:List (Nat×AV)}{h:List (Nat×Blk)}(h1:Cr st h sl:=by repeat' (first|exact trivial|refine⟨⟨rfl,rfl⟩,?_⟩))(h2:pc st h h:=by repeat' (first|exact trivial|refine⟨⟨rfl,rfl⟩,?_⟩)):ah cx fre st ⟨sl,h⟩:=(aF.keep h1 h2).toP
theorem ah.refl{cx:Cx}{fre:List Nat}(st:St):ah cx fre st st:=(aF.refl st).toP
theorem ah.rq{cx:Cx}{fre:List Nat}{st:St}(l:List Nat):ah cx fre st (st.bw l):=(aF.rq l).toP
theorem gW{cx:Cx}{fre:List Nat}{rs:List ResultVar}{x x' :AV}{st:St}(h:lG cx st rs=some x')(hx:qU [] x' =true)(e:x' =x):uZ cx fre rs (some (x,[])) st:= .inr (.inl ⟨st,ah.refl st,by rw[h,e],by rw[<- e];exact hx,trivial⟩)
theorem EE{cx:Cx}{fre:List Nat}{rs:List ResultVar}{x x' :AV}{st:St}(l:List Nat)(h:lG cx (st.bw l) rs=some x')(hx:qU [] x' =true)(e:x' =x):uZ cx fre rs (some (x,[])) st:= .inr (.inl ⟨_,ah.rq l,by rw[h,e],by rw[<- e];exact hx,trivial⟩)
theorem ah.iH{cx:Cx}{fre:List Nat}{st:St}(k j s sz:Nat)(cells:List AV)(e:TypeId)(sz' :Nat)(hb0:find st.heap k=some (.box cells))(hj0:cells[j]? =some (.nil sz))(h2:find st.heap s=none)(h3:0<sz')(h4:Nat.blt s 100000=true:=by rfl) :
 ah cx fre st ⟨st.slots,(s,.row e sz' [])::(k,.box (cells.set j (.own s)))::st.heap⟩:=(aF.iH k j s sz cells e sz' hb0 hj0 h2 h3 h4).toP
theorem ah.kj{cx:Cx}{fre:List Nat}{st:St}(t s sz:Nat)(e:TypeId)(sz' :Nat)(h1:st.get t= .nil sz)(h2:find st.heap s=none)(h3:0<sz')(h4:Nat.blt s 100000=true:=by rfl):ah cx fre st ⟨(t,.own s)::st.slots,(s,.row e sz' [])::st.heap⟩:=(aF.kj t s sz e sz' h1 h2 h3 h4).toP
theorem bF{cx:Cx}{fre:List Nat}{rs:List ResultVar}{x v0:AV}{h' :List (Nat×Blk)}{st:St}(h:lG cx st rs=some v0)(e:dn3 v0=x)(hx:qU h' x=true)(hk:pc st h' h' :=by repeat' (first|exact trivial|refine⟨⟨rfl,rfl⟩,?_⟩)):uZ cx fre rs (some (x,h')) st:= .inr (.inr ⟨st,v0,ah.refl st,h,e,hx,hk⟩)
theorem fo{cx:Cx}{fre:List Nat}{rs:List ResultVar}{x v0:AV}{h' :List (Nat×Blk)}{st st' :St}(hw:ah cx fre st st')(h:lG cx st' rs=some v0)(e:dn3 v0=x)(hx:qU h' x=true)(hk:pc st' h' h' :=by repeat' (first|exact trivial|refine⟨⟨rfl,rfl⟩,?_⟩)):uZ cx fre rs (some (x,h')) st:= .inr (.inr ⟨st',v0,hw,h,e,hx,hk⟩)
end NQ
