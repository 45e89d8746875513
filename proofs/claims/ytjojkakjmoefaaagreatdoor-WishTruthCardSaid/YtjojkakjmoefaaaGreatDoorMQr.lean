/-
  Merged texts.
-/
import Derived.Test.YtjojkakjmoefaaaGreatDoorQcpM
import Derived.Deep.LoopGhost
import Derived.Tactics
set_option linter.all false

namespace NQ
open Go Go.RowKit
def uc(c:Call):Option (Operand×Operand×TypeId) :=
 match c.callee,c.args.toList,c.argTypes.toList with
 | .builtin .append,[s,x],[t,t']=>(match Nat.beq t t' with|true=>some (s,x,t)|false=>none)
 |_,_,_=>none
def abf(cx:Cx)(st:St)(d:Option Nat)(ty:TypeId)(c:Call)(k:AV->St->Prop):Prop :=
 opK cx d ty (st.cC<|wI<|cA cx st c.args.toList c.argTypes.toList) (.call c) λv bs=>(match bs with|[]=>k v<|st.cC<|wI<|cA cx st c.args.toList c.argTypes.toList|_=>False)
def WB(cx:Cx)(o:Oper)(st:St)(k:St->Prop):Prop :=
 match o.op with
 | .store t D v=>Ly cx st t (st.ev cx D) (st.ev cx v) λhp=>k ⟨bW st.aY o.dst<|.tuple [],hp⟩
 | .mapUpdate t m key v=>AI cx st t (st.ev cx m) (st.ev cx key) (st.ev cx v) λhp=>k ⟨bW st.aY o.dst<|.tuple [],hp⟩
 | .insert t m key v=>AI cx st t (st.ev cx m) (st.ev cx key) (st.ev cx v) λhp=>k ⟨bW st.aY o.dst<|.tuple [],hp⟩
 | .call c=>(match uc c with
  |some (s,x,t)=>Fe cx st o.dst t (st.ev cx s) (kO cx t<|st.ev cx x) λv sl hp=>k ⟨bW sl o.dst v,hp⟩
  |none=>(match c.callee with
   | .value (.func f)=>(match Nat.beq (cx.chg f) 3 with
    |true=>Da cx st (st.ev cx<|.func f) (cA cx st c.args.toList c.argTypes.toList) λv j=>k ⟨bW j.aY o.dst v,j.heap⟩
    |false=>(match Nat.beq (cx.chg f) 5 with
     |true=>abf cx st o.dst o.type c λv j=>k ⟨bW j.aY o.dst v,j.heap⟩
     |false=>(match Nat.beq (cx.chg f) 6 with
      |true=>zx cx st (st.ev cx<|.func f) (cA cx st c.args.toList c.argTypes.toList) λv j=>k ⟨bW j.aY o.dst v,j.heap⟩
      |false=>Xy cx st o.dst (Nat.beq (cx.chg f) 1) f c.args.toList c.argTypes.toList λv j=>k ⟨bW j.aY o.dst v,j.heap⟩)))
   |_=>False))
 |_=>False
def ID(mt:Nat->Nat):Op->Bool
 | .store .. =>true
 | .mapUpdate .. =>true
 | .insert .. =>true
 | .call c=>(match c.callee with| .builtin .append=>true| .value (.func f)=>(match mt f with|0=>false|4=>false|_=>true)|_=>false)
 |_=>false
def tW(h:List<|Nat×Blk):List (Nat×Blk)->Bool
 |[]=>true
 |(s,_)::t=>(match find h s with|none=>tW h t|some _=>false)
def ed(nt:Nat):Option Nat->Bool
 |some d=>Nat.blt d nt
 |none=>true
def xD:Op->Bool
 | .call c=>(match c.callee with| .builtin _=>false|_=>true)
 |_=>false
def Wa(dr:Bool)(op:Op):List (Nat×Blk)->Bool
 |[]=>true
 |_=>(match dr with|true=> !xD op|false=>true)
def mZ(cx:Cx)(nt:Nat)(dr:Bool)(o:Oper)(st:St)(k:St->Prop):Prop :=
 match ed nt o.dst,ID cx.chg o.op with
 |true,true=>WB cx o st k
 |true,false=>opK cx o.dst o.type st o.op λv bs=>(match Wa dr o.op bs,tW st.heap bs with|true,true=>k<|st.put o.dst v bs|_,_=>False)
 |false,_=>False
def lA(ops:List Oper)(st:St)(o:Oper)(D G:Prop):Prop :=
 match o.guard with
 |none=>D
 |some (j,want)=>(match ops[j]? with
  |some H=>(match H.dst with
   |some d=>(match st.get d with
    | .d (.bool b)=>(match want with
     |true=>sI b D G
     |false=>sI b G D)
    | .tuple []=>G
    |_=>False)
   |none=>False)
  |none=>False)
def sB(cx:Cx)(nt:Nat)(dr:Bool)(ops:List Oper):List Oper->(St->Prop)->St->Prop
 |[],k,st=>k st
 |o::j,k,st=>lA ops st o (mZ cx nt dr o st λst' =>sB cx nt dr ops j k st') (match ed nt o.dst with|true=>sB cx nt dr ops j k<|st.put o.dst (.tuple []) []|false=>False)
section
variable {cx:Cx} {st:St} {nt:Nat}
def uR{h:List<|Nat×Blk}:∀{bs:List<|Nat×Blk},tW h bs=true-> ∀s,live bs s-> ¬live h s
 |[],_,s,D=>by simp[live,find]at D
 |(x,b)::t,j,s,D=>by
  simp only[tW]at j;split at j
  .rename_i G;by_cases e:x=s
   .subst e;unfold live;rw[G];simp
   .exact uR j s (by unfold live at D ⊢;rwa [bp _ _ e]at D)
  .cases j
def eC{d:Option Nat}(h:ed nt d=true):∀e,d=some e->e<nt:=λe j=>by
 subst j;exact Nat.lt_of_lt_of_le (Nat.lt_of_succ_le<|bA h)<|Nat.le_refl _
def ZE(J:bC cx){o:Oper}{k:St->Prop}(h:WB cx o st k):∃H,lW cx o st H/\k H:=by
 unfold WB at h;split at h
 .rename_i D;obtain⟨hp,h1,j⟩:=Yk J D h;exact⟨_,h1,j⟩
 .rename_i D;obtain⟨hp,h1,j⟩:=GW J (.inl D) h;exact⟨_,h1,j⟩
 .rename_i D;obtain⟨hp,h1,j⟩:=GW J (.inr D) h;exact⟨_,h1,j⟩
 .rename_i c D;split at h
  .rename_i s x t I;have K :c={callee:= .builtin .append,args:= #[s,x],argTypes:= #[t,t]}:=by
    unfold uc at I;split at I
    .rename_i s' x' t1 t2 h1 j N;split at I
     .rename_i X;cases I;obtain rfl:t=t2:=bg X;obtain⟨cc,T,U⟩:=c;simp only at h1 j N;subst h1;have V:T= #[s,x]:=by rw[<- Array.toList_inj];exact j
      have W:U= #[t,t]:=by rw[<- Array.toList_inj];exact N
      rw[V,W]
     .cases I
    .cases I
   rw[K]at D;obtain⟨v,sl,hp,h1,j⟩:=SP J D h;exact⟨_,h1,j⟩
  .split at h
   .rename_i f G;split at h
    .obtain⟨v,H,h1,j⟩:=Jt D G h;exact⟨_,h1,j⟩
    .split at h
     .unfold abf at h;rw[<- D]at h;obtain⟨v,bs,h1,j⟩:=uo J h;cases bs with
      |nil=>exact⟨_,λE a w Q Y hs=>h1.1 E _ a w Q (St.le.refl _) Y (λs Z=>by simp[live,find]at Z)<|hs.cC _,j⟩
      |cons _ _=>exact j.elim
     .split at h
      .obtain⟨v,H,h1,j⟩:=Cs D G h;exact⟨_,h1,j⟩
      .obtain⟨v,H,h1,j⟩:=abt D G h;exact⟨_,h1,j⟩
   .exact h.elim
 .exact h.elim
def lp(J:bC cx){dr:Bool}{o:Oper}{k:St->Prop}(h:mZ cx nt dr o st k):∃j,(∀(E:Env) a w (Q:Exit->Act->World->Prop),E.nt=nt->Sim cx E st a w->o.wp cx.P a w (λK w' =>Sim cx E j K w') Q)/\k j:=by
 unfold mZ at h;split at h
 .rename_i G _;obtain⟨j,h1,D⟩:=ZE J h;exact⟨j,λE a w Q H I=>h1 E a w Q (by rw[H];exact eC G) I,D⟩
 .rename_i G _;obtain⟨v,bs,h1,D⟩:=uo J h;split at D
  .rename_i _ N;exact⟨_,λE a w Q H I=>h1.1 E st a w Q (St.le.refl st) (by rw[H];exact eC G) (uR N) I,D⟩
  .exact D.elim
 .exact h.elim
def uD{ops:Array Oper}{D:Array Value}{j d:Nat}{H:Oper}{b:Bool}(J:ops[j]? =some H)(I:H.dst=some d)(h:D.getD d Go.undef= .bool b):yielded ops D j=some b:=by
 unfold yielded;simp only[J,Option.bind_some,I];cases G:D[d]? with
 |none=>simp[G,Go.undef]at h
 |some v=>simp[G]at h;subst h;rfl
def Am{ops:Array Oper}{D:Array Value}{j d:Nat}{G:Oper}(I:ops[j]? =some G)(H:G.dst=some d)(h:D.getD d Go.undef= .tuple #[]):yielded ops D j=none:=by
 unfold yielded;simp only[I,Option.bind_some,H];cases J:D[d]? with
 |none=>rfl
 |some v=>simp[J]at h;subst h;rfl
def uC{ops:Array Oper}{o:Oper}{J U:Prop}(h:lA ops.toList st o J U){E:Env}{a:Act}{w:World}(K:Sim cx E st a w) :
 (Region.wanted o (yielded ops a.tmps)=true/\J)\/(Region.wanted o (yielded ops a.tmps)=false/\U):=by
 obtain⟨σ,K⟩:=K;unfold lA at h;split at h
 .rename_i D;exact .inl ⟨by simp[Region.wanted,D],h⟩
 .rename_i j want D;split at h
  .rename_i Y V;have I :ops[j]? =some Y:=by rw[<- bE];exact V
   split at h
   .rename_i d T;split at h
    .rename_i b N;have G:=K.aY d;rw[N]at G;have H:=uD I T G.bool;cases want<;>cases b<;>simp only[sI]at h
     .exact .inl ⟨by simp[Region.wanted,D,H],h⟩
     .exact .inr ⟨by simp[Region.wanted,D,H],h⟩
     .exact .inr ⟨by simp[Region.wanted,D,H],h⟩
     .exact .inl ⟨by simp[Region.wanted,D,H],h⟩
    .rename_i N;have G:=K.aY d;rw[N]at G;have X:a.tmps.getD d Go.undef= .tuple #[]:=by
      generalize a.tmps.getD d Go.undef=u at G
      cases G with|tuple _ vs W _ =>
       have:vs= #[]:=Array.eq_empty_of_size_eq_zero W;rw[this]
     have H:=Am I T X;exact .inr ⟨by simp[Region.wanted,D,H],h⟩
    .exact h.elim
   .exact h.elim
  .exact h.elim
def jk{E:Env}{a:Act}{w:World}{d:Option Nat}(G:∀e,d=some e->e<E.nt)(D:Sim cx E st a w):Sim cx E (st.put d (.tuple []) []) (a.put d Go.undef) w:=by
 obtain⟨σ,D⟩:=D;exact⟨σ,D.put G<|.tuple [] #[] rfl λj c H=>by simp at H⟩
def wO(J:bC cx){dr:Bool}{ops:Array Oper}{E:Env}(H:E.nt=nt){Q:Exit->Act->World->Prop}:∀(l:List Oper) {k:St->Prop} {st:St} {a:Act} {w:World},sB cx nt dr ops.toList l k st->Sim cx E st a w ->
 (∀st' I w',k st' ->Sim cx E st' I w' ->Q .normal I w')->wpList cx.P ops Q l a w
 |[],k,st,a,w,h,D,G=>G st a w h D
 |o::j,k,st,a,w,h,D,G=>by
  simp only[sB]at h;unfold wpList;rcases uC h D with ⟨N,h⟩|⟨N,h⟩
  .rw[if_pos N];obtain⟨V,h1,T⟩:=lp J h;exact .inl<|Oper.wp_mono (λI w' K =>wO J H j T K G)<|h1 E a w Q H D
  .rw[if_neg<|by simp[N]];split at h
   .rename_i U;exact wO J H j h (jk (by rw[H];exact eC U) D) G
   .exact h.elim
def RA:AV->Option Nat
 | .own s=>some s
 |_=>none
def LF(st:St)(v:AV):Option Nat :=
 match RA v with
 |some s=>(match find st.heap s with|some (.tail ..)=>some s|_=>none)
 |none=>none
def KV{v:AV}{s:Nat}(h:RA v=some s):v= .own s:=by
 cases v<;>cases h;rfl
def Vh{v:AV}{s:Nat}(h:LF st v=some s):v= .own s:=by
 unfold LF at h;split at h
 .rename_i j e;split at h
  .cases h;exact KV e
  .cases h
 .cases h
def NC{c:Call}{s x:Operand}{t:TypeId}(j:uc c=some (s,x,t)):c={callee:= .builtin .append,args:= #[s,x],argTypes:= #[t,t]}:=by
 unfold uc at j;split at j
 .rename_i V X W T h1 D G;split at j
  .rename_i N;cases j;obtain rfl:t=T:=bg N;obtain⟨U,H,I⟩:=c;simp only at h1 D G;subst h1;have J:H= #[s,x]:=by rw[<- Array.toList_inj];exact D
   have K:I= #[t,t]:=by rw[<- Array.toList_inj];exact G
   rw[J,K]
  .cases j
 .cases j
def EO(cx:Cx)(nt:Nat)(o:Oper)(st:St)(k:St->Prop):Prop :=
 match o.op with
 | .slice t x (some lo) none none=>(match RA (st.ev cx x),ed nt o.dst with
  |some s,true=>CP cx st t s (st.ev cx lo) λv sl hp=>k ⟨bW sl o.dst v,hp⟩
  |some _,false=>False
  |none,_=>mZ cx nt false o st k)
 | .call c=>(match c.callee with
  | .builtin .append=>(match uc c with
   |some (s,x,t)=>(match LF st (st.ev cx s),ed nt o.dst with
    |some D,true=>CO cx st t D (kO cx t<|st.ev cx x) λv sl hp=>k ⟨bW sl o.dst v,hp⟩
    |some _,false=>False
    |none,_=>mZ cx nt false o st k)
   |none=>mZ cx nt false o st k)
  | .value (.tmp t)=>(match ed nt o.dst with
   |true=>(match callee (st.ev cx<|.tmp t)with
    |some (g,_,_)=>(match Nat.beq (cx.chg g) 6 with
     |true=>zx cx st (st.ev cx<|.tmp t) (cA cx st c.args.toList c.argTypes.toList) λv j=>k ⟨bW j.aY o.dst v,j.heap⟩
     |false=>Da cx st (st.ev cx<|.tmp t) (cA cx st c.args.toList c.argTypes.toList) λv j=>k ⟨bW j.aY o.dst v,j.heap⟩)
    |none=>False)
   |false=>False)
  | .value (.func f)=>(match Nat.beq (cx.chg f) 6 with
   |true=>(match ed nt o.dst with
    |true=>zx cx st (st.ev cx<|.func f) (cA cx st c.args.toList c.argTypes.toList) λv j=>k ⟨bW j.aY o.dst v,j.heap⟩
    |false=>False)
   |false=>mZ cx nt false o st k)
  |_=>mZ cx nt false o st k)
 |_=>mZ cx nt false o st k
def Lw(I:bC cx){o:Oper}{k:St->Prop}(h:EO cx nt o st k):∃D,(∀(E:Env) a w (Q:Exit->Act->World->Prop),E.nt=nt->Sim cx E st a w->o.wp cx.P a w (λU w' =>Sim cx E D U w') Q)/\k D:=by
 unfold EO at h;split at h
 .rename_i t x V K;split at h
  .rename_i s j J;obtain⟨v,sl,hp,h1,G⟩:=Sm I K (KV j) h;exact⟨_,λE a w Q H j=>h1 E a w Q (by rw[H];exact eC J) j,G⟩
  .exact h.elim
  .exact lp I h
 .rename_i c K;split at h
  .split at h
   .rename_i s x t N;split at h
    .rename_i T j J;rw[NC N]at K;obtain⟨v,sl,hp,h1,G⟩:=Sl I K (Vh j) h;exact⟨_,λE a w Q H j=>h1 E a w Q (by rw[H];exact eC J) j,G⟩
    .exact h.elim
    .exact lp I h
   .exact lp I h
  .rename_i t N;split at h
   .rename_i J;split at h
    .split at h
     .obtain⟨v,D,h1,G⟩:=Cs K N h;exact⟨_,λE a w Q H j=>h1 E a w Q (by rw[H];exact eC J) j,G⟩
     .obtain⟨v,D,h1,G⟩:=Jt K N h;exact⟨_,λE a w Q H j=>h1 E a w Q (by rw[H];exact eC J) j,G⟩
    .exact h.elim
   .exact h.elim
  .rename_i f N;split at h
   .split at h
    .rename_i J;obtain⟨v,D,h1,G⟩:=Cs K N h;exact⟨_,λE a w Q H j=>h1 E a w Q (by rw[H];exact eC J) j,G⟩
    .exact h.elim
   .exact lp I h
  .exact lp I h
 .exact lp I h
def seqB(cx:Cx)(nt:Nat)(ops:List Oper):List Oper->(St->Prop)->St->Prop
 |[],k,st=>k st
 | o :: j, k, st => lA ops st o (match Dn cx st o with
     |some r=>(match ed nt o.dst with
      |true=>r.aU.length=r.rows.length/\seqB cx nt ops j k ⟨bW st.aY o.dst<|.d<|.int .i64 r.rows.length,(r.s,.row r.e r.sz r.aU r.fl)::st.heap⟩
      |false=>False)
     |none=>(match Ef cx st o with
      |some (g,as)=>(match ed nt o.dst with
       |true=> ∃(ι:Type) (res:ι->AV) (bs:ι->List (Nat×Blk)),(FnC cx g as res bs/\ ∀i,xH (bs i)=true/\tW st.heap (bs i)=true)/\ ∀i,seqB cx nt ops j k<|st.put o.dst (res i)<|bs i
       |false=>False)
      |none=>EO cx nt o st λst' =>seqB cx nt ops j k st')) (match ed nt o.dst with|true=>seqB cx nt ops j k<|st.put o.dst (.tuple []) []|false=>False)
def tD(J:bC cx){ops:Array Oper}{E:Env}(G:E.nt=nt){Q:Exit->Act->World->Prop}:∀(l:List Oper) {k:St->Prop} {st:St} {a:Act} {w:World},seqB cx nt ops.toList l k st->Sim cx E st a w ->
 (∀st' K w',k st' ->Sim cx E st' K w' ->Q .normal K w')->wpList cx.P ops Q l a w
 |[],k,st,a,w,h,H,I=>I st a w h H
 |o::j,k,st,a,w,h,H,I=>by
  simp only[seqB]at h;unfold wpList;rcases uC h H with ⟨X,h⟩|⟨X,h⟩
  .rw[if_pos X];split at h
   .rename_i r Y;split at h
    .rename_i T;exact .inl<|Oper.wp_mono (λK w' D =>tD J G j h.2 D I)<|Zz J Y h.1 E a w Q (by rw[G];exact eC T) H
    .exact h.elim
   .split at h
    .rename_i g as W;split at h
     .rename_i T;obtain⟨ι,res,bs,⟨V,N⟩,U⟩:=h;exact .inl<|Oper.wp_mono (λK w' ⟨i,D⟩=>tD J G j (U i) D I)<|aay W V (λi=>(N i).1) (λi=>uR (N i).2) E a w Q (by rw[G];exact eC T) H
     .exact h.elim
    .obtain⟨Z,h1,U⟩:=Lw J h;exact .inl<|Oper.wp_mono (λK w' D =>tD J G j U D I)<|h1 E a w Q G H
  .rw[if_neg<|by simp[X]];split at h
   .rename_i T;exact tD J G j h (jk (by rw[G];exact eC T) H) I
   .exact h.elim
end
def eI(x:Nat):List Nat->Bool
 |[]=>false
 |y::t=>(match Nat.beq x y with|true=>true|false=>eI x t)
def dN{x:Nat}:∀{l:List Nat},eI x l=true ↔ x∈l
 |[]=>by simp[eI]
 |y::t=>by
  simp only[eI];by_cases h:x=y
  .subst h;simp
  .have:Nat.beq x y=false:=by rw[<- Bool.not_eq_true];exact λe=>h<|bg e
   rw[this];simp[dN (l:=t),h]
def gL(o:Oper):List Nat:=(o.after.toList.filter<|Region.binds .any).map (·.on)
def SF:List Nat->List Nat->List Nat
 |[],acc=>acc
 |x::t,acc=>SF t (match eI x acc with|true=>acc|false=>x::acc)
def PE(acc:List<|List Nat):List Nat->List Nat->List Nat
 |[],r=>r
 |e::t,r=>PE acc t<|SF (e::(acc[e]?).getD []) r
def closure:List Oper->List (List Nat)->List (List Nat)
 |[],acc=>acc
 |o::t,acc=>closure t<|acc++[PE acc (gL o) []]
def oi:Op->Bool
 | .alloc _=>true
 | .box .. =>true
 | .buildSlice .. =>true
 | .makeMap .. =>true
 | .makeSlice .. =>true
 |_=>false
def yQ(c:Call):Bool :=
 (match c.callee with| .value (.func _)=>true|_=>false)&&c.args.toList.all fun| .const _=>true|_=>false
def nK:Op->Bool
 | .indexAddr .. =>true
 | .call c=> !(yQ c)
 | .lookup .. =>true
 |_=>false
def mE:AV->Option Nat
 | .ptr s _=>some s
 | .dy s _ _ _=>some s
 |_=>none
def looks(ops:List Oper)(o:Oper):List Nat :=
 (o.op.operands.toList.filterMap fun| .tmp t=>some t|_=>none)++(match o.guard with|some (g,_)=>(match ops[g]? with|some j=>j.dst.toList|none=>[])|none=>[])
def eP(mt:Nat->Nat):List Oper->Nat
 |[]=>0
 |o::t=>(match ID mt o.op with|true=>0|false=>eP mt t+1)
def KB:Op->Bool
 | .extract .. =>true
 | .move _=>true
 |_=>false
def KH(ops:List Oper)(cx:List Nat)(m x:Nat)(H:List Nat):Bool :=
 Nat.blt x m&&(match ops[x]? with
  | some D => KB D.op && (gL D).all (fun e => eI e H) && (ops.all fun o => match o.op with | .select .. => false | _ => true) &&
      (List.range ops.length).all (λj=>Nat.beq j x||eI j cx||(match ops[j]? with|some G=>G.after.any (λe=>Region.binds .any e&&e.on==x)||D.apart ops.toArray G|none=>true))
  |none=>false)
def Ld(ops:List Oper)(G:List<|List Nat)(m i:Nat)(o:Oper):Bool :=
 let D:=(G[i]?).getD []
 (gL o).all (λe=>Nat.blt e i&&eI e D&&((G[e]?).getD []).all (λx=>eI x D)) &&
 D.all (λx=>Nat.blt x i&&(gL o).any (λe=>Nat.beq e x||eI x ((G[e]?).getD []))) &&
 (match Nat.ble m i with
  |true=>(List.range i).all λx=>eI x D||KH ops ((G[x]?).getD []) m x D
  | false => ((List.range m).all fun j => (match ops[j]? with
      |some H=>(match Nat.beq i j with
       |true=>true
       | false => (match H.dst with
           |some d=>(match eI d (looks ops o)with
            |true=>(match Nat.blt j i with|true=>eI j D|false=>eI i<|(G[j]?).getD [])
            |false=>true)&&(match o.dst with|some I => !(Nat.beq d I)|none=>true)
           |none=>true)&&(match nK o.op&&oi H.op&&Nat.blt j i with|true=>eI j D|false=>true))
      |none=>false)))
def AR(ops:List Oper)(j:List<|List Nat)(m:Nat):Nat->List Oper->Bool
 |_,[]=>true
 |i,o::t=>Ld ops j m i o&&AR ops j m (i+1) t
def Ek(mt:Nat->Nat)(ops:List Oper):Bool:=AR ops (closure ops []) (eP mt ops) 0 ops
def QC(cx:Cx)(nt:Nat)(ops:List Oper)(k:St->Prop)(st:St):Prop:=Ek cx.chg ops=true/\sB cx nt true ops ops k st
def BG{ops:List Oper}{D:List<|List Nat}{m:Nat}:∀{l:List Oper} {i:Nat},AR ops D m i l=true-> ∀j o,l[j]? =some o->Ld ops D m (i+j) o=true
 |[],i,_,j,o,h=>by simp at h
 |x::t,i,hp,j,o,h=>by
  simp only[AR,aK]at hp;cases j with
  |zero=>simp at h;subst h;exact hp.1
  |succ j=>simp at h;have:=BG hp.2 j o h;rwa [show i+1+j=i+(j+1) by omega]at this
def Kk{mt:Nat->Nat}:∀{l:List Oper} {i:Nat},i<eP mt l-> ∃o,l[i]? =some o/\ID mt o.op=false
 |[],i,h=>by simp[eP]at h
 |o::t,i,h=>by
  simp only[eP]at h;split at h
  .omega
  .rename_i j;cases i with
   |zero=>exact⟨o,rfl,j⟩
   |succ i=>exact Kk (l:=t) (by omega)
def Kj{mt:Nat->Nat}:∀(l:List Oper),eP mt l<=l.length
 |[]=>Nat.le_refl _
 |o::t=>by simp only[eP];split<;>simp;exact Kj t
structure Vx(ops:List Oper)(cx:List Nat)(x:Nat):Prop where
 op:∃ox,ops[x]? =some ox/\KB ox.op=true
 sel:∀o∈ops,∀cs b,o.op≠ .select cs b
 free:∀ox j oj,ops[x]? =some ox->ops[j]? =some oj->j≠x->j ∉ cx->(∀e∈oj.after,Region.binds .any e=true->e.on≠x)->ox.apart ops.toArray oj=true
variable {ops:List Oper}
def Uh{cx:List Nat}{m x:Nat}{X:List Nat}(h:KH ops cx m x X=true):x<m/\Vx ops cx x/\ ∀I,ops[x]? =some I-> ∀e∈gL I,e∈X:=by
 unfold KH at h;simp only[aK]at h;obtain⟨h1,H⟩:=h;split at H
 .rename_i I G;simp only[aK,aG]at H;obtain⟨⟨⟨H,Z⟩,h4⟩,h5⟩:=H;refine⟨Nat.lt_of_succ_le<|bA h1,⟨⟨I,G,H⟩,λo D cs b e=>?_,λW j oj D Y U K V=>?_⟩,λW D e N=>?_⟩
  .have:=h4 o D;rw[e]at this;cases this
  .rw[G]at D;cases D;have:=h5 j<|List.mem_range.2 (aA.1 Y).1;have hb:Nat.beq j x=false:=by rw[<- Bool.not_eq_true];exact λe=>U<|bg e
   have J:eI j cx=false:=by rw[<- Bool.not_eq_true];exact λe=>K<|dN.1 e
   rw[hb,J,Y]at this;simp only[iI,Bool.or_eq_true]at this;rcases this with h|h
   .rw[Array.any_eq_true']at h;obtain⟨e,N,T⟩:=h;simp only[aK,beq_iff_eq]at T;exact absurd T.2<|V e N T.1
   .exact h
  .rw[G]at D;cases D;exact dN.1<|Z e N
 .cases H
structure VA(ops:List Oper)(cl:Nat->List Nat)(m:Nat):Prop where
 QD:∀i o,ops[i]? =some o-> ∀e∈gL o,e<i/\e∈cl i/\ ∀x∈cl e,x∈cl i
 least:∀i o,ops[i]? =some o-> ∀x∈cl i,x<i/\ ∃e∈gL o,e=x\/x∈cl e
 tail:∀i o,ops[i]? =some o->m<=i-> ∀x,x<i->x∈cl i\/(x<m/\Vx ops (cl x) x/\ ∀ox,ops[x]? =some ox-> ∀e∈gL ox,e∈cl i)
 look:∀i o,ops[i]? =some o->i<m-> ∀j oj d,ops[j]? =some oj->j<m->i≠j->oj.dst=some d->d∈looks ops o->(j<i->j∈cl i)/\(i<j->i∈cl j)
 dst:∀i o,ops[i]? =some o->i<m-> ∀j oj d,ops[j]? =some oj->j<m->i≠j->oj.dst=some d->o.dst≠some d
 read:∀i o,ops[i]? =some o->i<m-> ∀j oj,ops[j]? =some oj->j<i->nK o.op=true->oi oj.op=true->j∈cl i
def aaz{mt:Nat->Nat}(h:Ek mt ops=true):∃cl,VA ops cl<|eP mt ops:=by
 refine⟨λi=>((closure ops [])[i]?).getD [],?_,?_,?_,?_,?_,?_⟩
 all_goals
  intro i o ho;have hp:=BG h i o ho;rw[Nat.zero_add]at hp;simp only[Ld,aK]at hp;obtain⟨⟨h1,h2⟩,J⟩:=hp
 .intro e Y;have:=aG.1 h1 e Y;simp only[aK]at this;exact⟨Nat.lt_of_succ_le<|bA this.1.1,dN.1 this.1.2,λx U=>dN.1<|aG.1 this.2 x U⟩
 .intro x U;have:=aG.1 h2 x U;simp only[aK,List.any_eq_true,Bool.or_eq_true]at this;obtain⟨a,e,Y,hh⟩:=this;exact⟨Nat.lt_of_succ_le<|bA a,e,Y,hh.imp bg dN.1⟩
 .intro hm x U;rw[show Nat.ble (eP mt ops) i=true from Nat.ble_eq_true_of_le hm]at J;have K:=aG.1 J x<|List.mem_range.2 U;rw[Bool.or_eq_true]at K;exact K.imp dN.1 Uh
 all_goals
  intro hm;have N:Nat.ble (eP mt ops) i=false:=by rw[<- Bool.not_eq_true];intro e;have:=bA e;omega
  rw[N]at J
 .intro j oj d T H I W hl;have:=aG.1 J j<|List.mem_range.2 H;have D:Nat.beq i j=false:=by rw[<- Bool.not_eq_true];exact λe=>I<|bg e
  simp only[T,D,W,dN.2 hl,aK]at this;obtain⟨⟨V,_⟩,_⟩:=this;refine⟨λG=>?_,λG=>?_⟩
  .rw[show Nat.blt j i=true from Nat.ble_eq_true_of_le G]at V;exact dN.1 V
  .have:Nat.blt j i=false:=by rw[<- Bool.not_eq_true];intro e;have:=bA e;omega
   rw[this]at V;exact dN.1 V
 .intro j oj d T H I W X;have:=aG.1 J j<|List.mem_range.2 H;have D:Nat.beq i j=false:=by rw[<- Bool.not_eq_true];exact λe=>I<|bg e
  simp only[T,D,W,X,aK]at this;simp at this
 .intro j oj T G hr Z;have:=aG.1 J j (List.mem_range.2<|by omega);have D:Nat.beq i j=false:=by rw[<- Bool.not_eq_true];intro e;have:=bg e;omega
  simp only[T,D,aK,hr,Z,gq,show Nat.blt j i=true from Nat.ble_eq_true_of_le G]at this;exact dN.1 this.2
variable {cx:Cx}{st st':St}
def Sim.ext{E:Env}{a:Act}{w:World}(h:Sim cx E st a w)(h1:∀t,st'.get t=st.get t)(G:∀s,find st'.heap s=find st.heap s):Sim cx E st' a w:=by
 obtain⟨σ,j⟩:=h;have D:live st'.heap=live st.heap:=funext λs=>by unfold live;rw[G]
 refine⟨σ,j.frame,j.new,j.apart,j.defers,j.nt,λt=>?_,⟨λs b I=>?_,?_⟩,j.gR,j.ee,λJ B H=>⟨(j.fix J B H).1,λh=>(j.fix J B H).2<|by rw[D]at h;exact h⟩⟩
 .rw[D,h1];exact j.aY t
 .rw[D];rw[G]at I;exact j.holds.blk s b I
 .rw[D];exact j.holds.inj
def jH{f g:AV->Option D}(h:∀c,f c=g c)(l:List AV):cB f l=cB g l:=by
 rw[show f=g from funext h]
def Oz(h:st.heap=st'.heap)(c:AV):iU st c=iU st' c:=by
 have D:∀c,mo st c=mo st' c:=λc=>by cases c<;>simp[mo,h]
 have j:∀c,ic st c=ic st' c:=λc=>by cases c<;>simp[ic,h,D,jH D]
 have I:∀c,qF st c=qF st' c:=λc=>by cases c<;>simp[qF,j,jH j]
 have J:∀s off,oN st s off=oN st' s off:=λs off=>by unfold oN;rw[h]
 have H:∀c,na st c=na st' c:=λc=>by
  cases c with
  |ptr s off=>simp only[na,J,I,j]
  |_=>(simp only[na];exact j _)
 have G:∀c,lz st c=lz st' c:=λc=>by cases c<;>simp[lz,j,jH j,jH H]
 cases c<;>simp[iU,G,jH G]
def LP(h:st.heap=st'.heap)(c:AV):qD st c=qD st' c:=by
 have j:∀c,qE st c=qE st' c:=λc=>by cases c<;>simp[qE,h]
 cases c<;>simp[qD,j,jH j]
def vD{cx:Cx}{st st' :St}:∀(xs:List Operand) (j:List TypeId),(∀x∈xs,st.ev cx x=st'.ev cx x)->cA cx st xs j=cA cx st' xs j
 |[],j,h=>rfl
 |x::xs,t::j,h=>by simp only[cA];rw[h x<|by simp,vD xs j λy D=>h y<|by simp[D]]
 |x::xs,[],h=>by simp only[cA];rw[h x<|by simp,vD xs [] λy D=>h y<|by simp[D]]
def BI{cx:Cx}{st st' :St}{size:Nat}:∀(l:List<|Nat×Operand) (i:Nat),(∀p∈l,st.ev cx p.2=st'.ev cx p.2)->sZ st cx size i l=sZ st' cx size i l
 |[],i,h=>rfl
 |(j,x)::t,i,h=>by
  simp only[sZ];have D:st.ev cx x=st'.ev cx x:=h (j,x) (by simp);rw[D,BI t (i+1) λy G=>h y<|by simp[G]]
def BJ{cx:Cx}{st st' :St}{size:Nat}:∀(l:List<|Nat×Operand) (i:Nat),(∀p∈l,st.ev cx p.2=st'.ev cx p.2)->tc st cx size i l=tc st' cx size i l
 |[],i,h=>rfl
 |(j,x)::t,i,h=>by
  simp only[tc];have D:st.ev cx x=st'.ev cx x:=h (j,x) (by simp);rw[D,BJ t (i+1) λy G=>h y<|by simp[G]]
def Eh:AV->Bool
 | .d _=>true
 | .nil _=>true
 | .undef=>true
 |_=>false
def qw:AV->Bool
 | .agg cs=>cs.all Eh
 |v=>Eh v
def ve(v:Value):Eh (pr v)=true:=by
 unfold pr;split<;>rfl
def wK(v:Value):qw (ofConst v)=true:=by
 unfold ofConst;split
 .simp only[qw,aG,List.mem_map];rintro _ ⟨x, -, rfl⟩;exact ve x
 .rename_i h;have:=ve v;unfold qw;split
  .rename_i j;rw[j]at this;cases this
  .exact this
def Io{t:TypeId}{v:AV}(h:qw v=true):qw (kO cx t v)=true:=by
 unfold kO;split
 .split
  .split<;>rfl
  .rfl
 .exact h
def OB{v:AV}(h:Eh v=true):lz st v=nZ v:=by
 cases v<;>first|rfl|(cases h;done)
def yp{f g:AV->Option D}:∀{l:List AV},(∀x∈l,f x=g x)->cB f l=cB g l
 |[],_=>rfl
 |x::t,h=>by simp only[cB];rw[h x<|by simp,yp λy j=>h y<|by simp[j]]
def OA{v:AV}(h:qw v=true):iU st v=ju v:=by
 cases v<;>first|rfl|(cases h;done)|skip
 rename_i cs;simp only[qw,aG]at h;have:cB (lz st) cs=cB nZ cs:=yp λx j=>OB<|h x j
 simp only[iU,ju,this]
def vE{cx:Cx}{st st' :St}:∀(l:List Operand) (D:List TypeId),(l.all fun| .const _=>true|_=>false)=true->cA cx st l D=cA cx st' l D/\ ∀v∈cA cx st l D,qw v=true
 |[],_,_=>⟨rfl,λv J=>by cases J⟩
 |x::t,D,h=>by
  simp only[List.all_cons,aK]at h;obtain⟨K,I⟩:=h;cases x<;>first|(cases K;done)|skip
  rename_i v;have e:St.ev cx st (.const v)=ofConst v:=rfl;have H :St.ev cx st' (.const v)=ofConst v:=rfl;cases D with
  |nil =>
   obtain⟨h1,G⟩:=vE (cx:=cx) (st:=st) (st' :=st') t [] I;refine⟨by simp only[cA,e,H,h1],λu j=>?_⟩;simp only[cA,e,List.mem_cons]at j;rcases j with rfl|j
   .exact wK v
   .exact G u j
  |cons y D =>
   obtain⟨h1,G⟩:=vE (cx:=cx) (st:=st) (st' :=st') t D I;refine⟨by simp only[cA,e,H,h1],λu j=>?_⟩;simp only[cA,e,List.mem_cons]at j;rcases j with rfl|j
   .exact Io<|wK v
   .exact G u j
def TF{f:FuncId}{l:List AV}{k:KK}(h:∀v∈l,qw v=true):fnK cx st (.d<|.fn f [] []) l k=fnK cx st' (.d<|.fn f [] []) l k:=by
 have D:∀s:St,cB (iU s) l=cB ju l:=λs=>yp λx j=>OA<|h x j
 unfold fnK;simp only[callee,List.map_nil,List.nil_append,List.append_nil];have G:jf cx st f l k=jf cx st' f l k:=by
  unfold jf;cases l with
  |nil=>rfl
  |cons x t =>
   have j:=h x (by simp);cases x<;>first|rfl|(cases j;done)
 rw[G,D st,D st'];cases cB ju l with
 |some ds=>rfl
 |none=>rfl
def Hb{d:Option Nat}{ty:TypeId}{op:Op}{k:KK}(h1:∀x∈op.operands.toList,st.ev cx x=st'.ev cx x)(V:nK op=true->st.heap=st'.heap)(J:∀t x,op= .load t x-> ∀s,mE (st.ev cx x)=some s->find st'.heap s=find st.heap s):opK cx d ty st op k=opK cx d ty st' op k:=by
 cases op<;>simp only[Op.operands]at h1<;>simp only[opK]
 case move x=>rw[h1 x<|by simp]
 case assign x=>rw[h1 x<|by simp]
 case pick c a b=>rw[h1 c<|by simp,h1 a<|by simp,h1 b<|by simp]
 case box e x=>rw[h1 x<|by simp]
 case build t parts =>
  unfold rO;have:∀W:List (Nat×TypeId),parts.toList.map (Ed cx st W)=parts.toList.map (Ed cx st' W):=λW=>by
   refine List.map_congr_left λp hp=>?_
   have:=h1 p.2 (by simp;exact⟨p.1,by simpa using hp⟩);unfold Ed;rw[this]
  simp only[this]
 case buildSlice t n parts =>
  have:∀size,sZ st cx size 0 parts.toList=sZ st' cx size 0 parts.toList:=λsize=>BI _ _ λp hp=>h1 p.2 (by simp;exact⟨p.1,by simpa using hp⟩)
  have H :∀size,tc st cx size 0 parts.toList=tc st' cx size 0 parts.toList:=λsize=>BJ _ _ λp hp=>h1 p.2 (by simp;exact⟨p.1,by simpa using hp⟩)
  simp only[this,H]
 case load t x =>
  have J:=J t x rfl;rw[h1 x<|by simp]at J ⊢;generalize st'.ev cx x=v at J;unfold qp;cases v<;>first|rfl|(rename_i y;cases y<;>rfl)|(have h4:=J _ rfl;simp only[h4])
 case nilCheck x=>rw[h1 x<|by simp]
 case binOp op t x y ty=>rw[h1 x<|by simp,h1 y<|by simp]
 case unOp op t x=>rw[h1 x<|by simp]
 case convert s t x=>rw[h1 x<|by simp]
 case makeFunc fn first caps =>
  have D:first.toList.map (st.ev cx)=first.toList.map (st'.ev cx):=List.map_congr_left λx G=>h1 x (by simp;left;simpa using G)
  have I:caps.toList.map (st.ev cx)=caps.toList.map (st'.ev cx):=List.map_congr_left λx G=>h1 x (by simp;right;simpa using G)
  rw[D,I]
 case makeSlice t l c=>rw[h1 l<|by simp,h1 c<|by simp]
 case slice t x lo hi mx =>
  rw[h1 x<|by simp];have D:lo.map (st.ev cx)=lo.map (st'.ev cx):=by cases lo with
   |none=>rfl
   |some y=>simp;exact h1 y (by simp)
  have I:hi.map (st.ev cx)=hi.map (st'.ev cx):=by cases hi with
   |none=>rfl
   |some y=>simp;exact h1 y (by simp)
  rw[D,I]
 case fieldAddr s x f=>rw[h1 x<|by simp]
 case field t x f=>rw[h1 x<|by simp]
 case indexAddr t x i=>rw[h1 x<|by simp,h1 i<|by simp];unfold eX;rw[V rfl]
 case index t x i=>rw[h1 x<|by simp,h1 i<|by simp]
 case lookup t x i ok =>
  have hm:∀c,mapOf st c=mapOf st' c:=λc=>by unfold mapOf;rw[V rfl]
  rw[h1 x<|by simp,h1 i<|by simp];unfold jK;rw[hm,V rfl]
 case makeMap t r =>
  have D:r.map (st.ev cx)=r.map (st'.ev cx):=by cases r with
   |none=>rfl
   |some y=>simp;exact h1 y (by simp)
  rw[D]
 case extract x i=>rw[h1 x<|by simp]
 case call c =>
  by_cases X:yQ c=true
  .simp only[yQ,aK]at X;obtain⟨K,Y⟩:=X;obtain⟨j,args,T⟩:=c;cases j<;>first|(cases K;done)|skip
   rename_i f;cases f<;>first|(cases K;done)|skip
   rename_i f;simp only[xg];obtain⟨D,I⟩:=vE (cx:=cx) (st:=st) (st' :=st') args.toList T.toList Y;rw[<- D];exact TF I
  have N:=V (by simp[nK,X]);obtain⟨j,args,T⟩:=c;cases j with
  |value f =>
   have ef:st.ev cx f=st'.ev cx f:=h1 f (by simp[Call.operands]);have U:cA cx st args.toList T.toList=cA cx st' args.toList T.toList:=vD _ _ λx G=>h1 x (by simp[Call.operands];right;simpa using G)
   have ev:∀l,cB (iU st) l=cB (iU st') l:=jH<|Oz N;have el:∀l v,DJ st l v=DJ st' l v:=λl v=>by unfold DJ DK;rw[jH<|LP N,N]
   have Z:∀g l,jf cx st g l k=jf cx st' g l k:=λg l=>by unfold jf;rw[N]
   simp only[xg,fnK,ef,U,ev,Z,el]
  |invoke r m=>rfl
  |builtin b =>
   cases b<;>simp only[xg];have U:∀x∈args.toList,st.ev cx x=st'.ev cx x:=λx G=>h1 x (by simp[Call.operands];simpa using G)
   generalize args.toList=l at U
   generalize T.toList=tl
   match l,tl with
   |[x],[t] =>
    have ex:=U x (by simp);simp only[ex];unfold mS;rw[N]
   |[],_=>rfl
   |[_],[]=>rfl
   |[_],_::_::_=>rfl
   |_::_::_,_=>rfl
def bJ{a b}{c:Prop}(h:c)(h1:Ek a b=true:=by kernel_rfl):Ek a b=true/\c:=⟨h1,h⟩
section
variable {cx:Cx} {st:St} {k:KK}
def nf(v:AV)(bs:List<|Nat×Blk):KK:=λD j =>D =v/\j =bs
def dV(v:AV)(bs:List<|Nat×Blk):nf v bs v bs:=⟨rfl,rfl⟩
def fI{o:Option AV}(h:kr o k):∃v,k v []/\kr o (nf v []):=by
 cases o with
 |none=>exact h.elim
 |some v=>exact⟨v,h,dV _ _⟩
def Un{t:TypeId}{x:AV}(h:qp cx st t x k):∃v,k v []/\qp cx st t x (nf v []):=by
 unfold qp at h;split at h
 .split at h
  .rename_i D;obtain⟨v,h1,j⟩:=fI h;exact⟨v,h1,by simp only[qp,D];exact j⟩
  .exact h.elim
 .split at h
  .rename_i D;split at h
   .rename_i G;obtain⟨row,H,h⟩:=h;obtain⟨v,h1,j⟩:=fI h;exact⟨v,h1,by simp only[qp,D,G];exact⟨row,H,j⟩⟩
   .exact h.elim
  .rename_i D;split at h
   .rename_i G;obtain⟨row,H,h⟩:=h;obtain⟨v,h1,j⟩:=fI h;exact⟨v,h1,by simp only[qp,D,G];exact⟨row,H,j⟩⟩
   .exact h.elim
  .rename_i D;split at h
   .rename_i G;obtain⟨row,H,h⟩:=h;obtain⟨v,h1,j⟩:=fI h;exact⟨v,h1,by simp only[qp,D,G];exact⟨row,H,j⟩⟩
   .exact h.elim
  .exact h.elim
 .obtain⟨v,h1,j⟩:=fI h;exact⟨v,h1,j⟩
 .exact h.elim
def FB{t:TypeId}{x i:AV}(h:eX cx st t x i k):∃v,k v []/\eX cx st t x i (nf v []):=by
 unfold eX at h;split at h
 .split at h
  .rename_i j;split at h
   .split at h
    .rename_i D;obtain⟨h0,row,N,h⟩:=h;exact⟨_,h,by simp only[eX,j,D];exact⟨h0,row,N,dV _ _⟩⟩
    .exact h.elim
   .split at h
    .rename_i G;split at h
     .rename_i D;obtain⟨h0,h1,h⟩:=h;exact⟨_,h,by simp only[eX,j,G,D];exact⟨h0,h1,dV _ _⟩⟩
     .exact h.elim
    .rename_i G;split at h
     .rename_i D;obtain⟨h0,h1,h⟩:=h;exact⟨_,h,by simp only[eX,j,G,D];exact⟨h0,h1,dV _ _⟩⟩
     .exact h.elim
    .rename_i G;split at h
     .rename_i D;obtain⟨h0,h1,h⟩:=h;exact⟨_,h,by simp only[eX,j,G,D];exact⟨h0,h1,dV _ _⟩⟩
     .exact h.elim
    .exact h.elim
   .split at h
    .rename_i G;split at h
     .rename_i D H;obtain⟨h0,h1,h⟩:=h;exact⟨_,h,by simp only[eX,j,G,D,H];exact⟨h0,h1,dV _ _⟩⟩
     .exact h.elim
    .exact h.elim
   .exact h.elim
  .rename_i j;split at h
   .rename_i K;obtain⟨h0,h1,h⟩:=h;obtain⟨v,I,J⟩:=fI h;exact⟨v,I,by simp only[eX,j,K];exact⟨h0,h1,J⟩⟩
   .exact h.elim
 .exact h.elim
def QW{t:TypeId}{x i:AV}(h:tZ cx t x i k):∃v,k v []/\tZ cx t x i (nf v []):=by
 unfold tZ at h;split at h
 .rename_i D;obtain⟨h0,c,j,h⟩:=h;exact⟨_,h,by simp only[tZ,D];exact⟨h0,c,j,dV _ _⟩⟩
 .exact h.elim
def Wk{t:TypeId}{x:AV}{J I:Option AV}(h:yU cx t x J I k):∃v,k v []/\yU cx t x J I (nf v []):=by
 unfold yU at h;split at h
 .split at h
  .rename_i j D G;obtain⟨h0,h1,H,h⟩:=h;exact⟨_,h,by simp only[yU,j,D,G];exact⟨h0,h1,H,dV _ _⟩⟩
  .exact h.elim
 .split at h
  .rename_i j D G;split at h
   .rename_i K;obtain⟨h0,h1,H,h⟩:=h;exact⟨_,h,by simp only[yU,j,D,G,K];exact⟨h0,h1,H,dV _ _⟩⟩
   .exact h.elim
  .exact h.elim
 .exact h.elim
def NN{t:TypeId}{x i:AV}{ok:Bool}(h:jK cx st t x i ok k):∃v,k v []/\jK cx st t x i ok (nf v []):=by
 unfold jK at h;split at h
 .rename_i em;unfold ue at h;split at h
  .rename_i H;split at h
   .rename_i j D I;split at h
    .rename_i G J;obtain⟨r,K,h⟩:=h;cases r<;>cases ok<;>exact⟨_,h,by simp only[jK,em,ue,H,j,D,I,G,J];exact⟨_,K,dV _ _⟩⟩
    .exact h.elim
   .exact h.elim
  .rename_i H;split at h
   .rename_i j D;split at h
    .rename_i G;obtain⟨r,K,h⟩:=h;cases r<;>cases ok<;>exact⟨_,h,by simp only[jK,em,ue,H,j,D,G];exact⟨_,K,dV _ _⟩⟩
    .exact h.elim
   .exact h.elim
  .exact h.elim
 rename_i em;split at h
 .rename_i H;split at h
  .rename_i j D I;split at h
   .rename_i G;split at h
    .rename_i J;cases ok<;>exact⟨_,h,by simp only[jK,em,H,j,D,I,G,J];exact dV _ _⟩
    .rename_i J;cases ok<;>exact⟨_,h,by simp only[jK,em,H,j,D,I,G,J];exact dV _ _⟩
   .exact h.elim
  .rename_i j D I;split at h
   .rename_i G;obtain⟨r,K,h⟩:=h;exact⟨_,h,by simp only[jK,em,H,j,D,I,G];exact⟨r,K,dV _ _⟩⟩
   .exact h.elim
  .exact h.elim
 .exact h.elim
def Xp{t:TypeId}{x:AV}(h:mS cx st t x k):∃v,k v []/\mS cx st t x (nf v []):=by
 unfold mS at h;split at h
 .split at h
  .rename_i e;exact⟨_,h,by simp only[mS,e];exact dV _ _⟩
  .exact h.elim
 .split at h
  .rename_i e;exact⟨_,h,by simp only[mS,e];exact dV _ _⟩
  .exact h.elim
 .split at h
  .rename_i e;exact⟨_,h,by simp only[mS,e];exact dV _ _⟩
  .exact h.elim
 .split at h
  .rename_i j D;exact⟨_,h,by simp only[mS,j,D];exact dV _ _⟩
  .rename_i j D;exact⟨_,h,by simp only[mS,j,D];exact dV _ _⟩
  .rename_i j D;exact⟨_,h,by simp only[mS,j,D];exact dV _ _⟩
  .exact h.elim
 .split at h
  .rename_i j D;exact⟨_,h,by simp only[mS,j,D];exact dV _ _⟩
  .exact h.elim
 .split at h
  .rename_i j D;exact⟨_,h,by simp only[mS,j,D];exact dV _ _⟩
  .rename_i j D;exact⟨_,h,by simp only[mS,j,D];exact dV _ _⟩
  .exact h.elim
 .split at h
  .rename_i e;exact⟨_,h,by simp only[mS,e];exact dV _ _⟩
  .exact h.elim
 .exact h.elim
def Ql{t:TypeId}{j:List<|Nat×Operand}(h:rO cx st t j k):∃v,k v []/\rO cx st t j (nf v []):=by
 unfold rO at h;split at h
 .rename_i D;split at h
  .rename_i G;split at h
   .rename_i H I;exact⟨_,h,by simp only[rO,D,G,H,I];exact dV _ _⟩
   .exact h.elim
  .exact h.elim
 .exact h.elim
def FJ{d:Option Nat}{t:TypeId}{l c:AV}{fl:Bool}(h:mf cx d t l c fl k):∃v bs,k v bs/\mf cx d t l c fl (nf v bs):=by
 unfold mf at h;split at h
 .rename_i j;split at h
  .rename_i D;obtain⟨h0,h1,H,I,J,h⟩:=h;split at h
   .rename_i G;exact⟨_,_,h,by simp only[mf,j,D];exact⟨h0,h1,H,I,J,by simp only[G];exact dV _ _⟩⟩
   .exact h.elim
  .exact h.elim
 .exact h.elim
def KL{g:FuncId}{args:List AV}(h:jf cx st g args k):∃v,k v []/\jf cx st g args (nf v []):=by
 unfold jf at h;split at h
 .split at h
  .rename_i j D;split at h
   .rename_i G;obtain⟨v,H,h⟩:=h;exact⟨v,h,by simp only[jf,j,D,G];exact⟨v,H,dV _ _⟩⟩
   .exact h.elim
  .exact h.elim
 .exact h.elim
def ZI{f:AV}{args:List AV}(h:fnK cx st f args k):∃v bs,k v bs/\fnK cx st f args (nf v bs):=by
 unfold fnK at h;split at h
 .rename_i D;split at h
  .rename_i j;obtain⟨v,h1,N⟩:=KL h;exact⟨v,[],h1,by simp only[fnK,D,j];exact N⟩
  rename_i j;split at h
  .rename_i G;obtain⟨v,bs,H,h⟩:=h;split at h
   .rename_i K;exact⟨v,bs,h,by simp only[fnK,D,j,G];exact⟨v,bs,H,by simp only[K];exact dV _ _⟩⟩
   .exact h.elim
  .rename_i G;split at h
   .rename_i J;obtain⟨v,H,I,h⟩:=h;exact⟨v,[],h,by simp only[fnK,D,j,G,J];exact⟨v,H,I,dV _ _⟩⟩
   .exact h.elim
 .exact h.elim
def FT{d:Option Nat}{ty:TypeId}{op:Op}(h:opK cx d ty st op k):∃v bs,k v bs/\(oi op=false->xD op=false->bs=[])/\opK cx d ty st op (nf v bs):=by
 cases op<;>simp only[opK]at h ⊢<;>try (exact h.elim)
 case move x=>obtain⟨v,h1,j⟩:=fI h;exact⟨v,[],h1,λ_ _=>rfl,j⟩
 case assign x =>
  generalize TY x=X at h ⊢
  cases X with
  |true=>exact⟨_,[],h,λ_ _=>rfl,dV _ _⟩
  |false=>obtain⟨v,h1,j⟩:=fI h;exact⟨v,[],h1,λ_ _=>rfl,j⟩
 case pick c a b =>
  split at h
  .rename_i t e;cases t with
   |true=>obtain⟨v,h1,j⟩:=fI h;exact⟨v,[],h1,λ_ _=>rfl,by(try simp only[e]);exact j⟩
   |false=>obtain⟨v,h1,j⟩:=fI h;exact⟨v,[],h1,λ_ _=>rfl,by(try simp only[e]);exact j⟩
  .exact h.elim
 case alloc e =>
  split at h
  .rename_i K H;exact⟨_,_,h,(λG D=>by first|(cases G;done)|(cases D;done)),by(try simp only[H]);exact dV _ _⟩
  .exact h.elim
 case box e x =>
  split at h
  .rename_i K H;split at h
   .rename_i I;split at h
    .rename_i J;exact⟨_,_,h,(λG D=>by first|(cases G;done)|(cases D;done)),by(try simp only[H,I,J]);exact dV _ _⟩
    .exact h.elim
   .exact h.elim
  .exact h.elim
 case build t parts=>obtain⟨v,h1,j⟩:=Ql h;exact⟨v,[],h1,λ_ _=>rfl,j⟩
 case buildSlice t n parts =>
  split at h
  .rename_i K H;split at h
   .rename_i I;split at h
    .rename_i J N T W;exact⟨_,_,h,(λG D=>by first|(cases G;done)|(cases D;done)),by(try simp only[H,I,J,N,T,W]);exact dV _ _⟩
    .rename_i J N T W;exact⟨_,_,h,(λG D=>by first|(cases G;done)|(cases D;done)),by(try simp only[H,I,J,N,T,W]);exact dV _ _⟩
    .exact h.elim
   .rename_i I;split at h
    .rename_i V;split at h
     .rename_i J N T;exact⟨_,_,h,(λG D=>by first|(cases G;done)|(cases D;done)),by(try simp only[H,I,V,J,N,T]);exact dV _ _⟩
     .exact h.elim
    .exact h.elim
  .exact h.elim
 case load t x=>obtain⟨v,h1,j⟩:=Un h;exact⟨v,[],h1,λ_ _=>rfl,j⟩
 case nilCheck x =>
  split at h
  .rename_i e;exact⟨_,_,h,λ_ _=>rfl,by(try simp only[e]);exact dV _ _⟩
  .rename_i e;exact⟨_,_,h,λ_ _=>rfl,by(try simp only[e]);exact dV _ _⟩
  .rename_i e;exact⟨_,_,h,λ_ _=>rfl,by(try simp only[e]);exact dV _ _⟩
  .rename_i e;exact⟨_,_,h,λ_ _=>rfl,by(try simp only[e]);exact dV _ _⟩
  .rename_i e;exact⟨_,_,h,λ_ _=>rfl,by(try simp only[e]);exact dV _ _⟩
  .exact h.elim
 case binOp =>
  split at h
  .rename_i e;exact⟨_,[],h.2,λ_ _=>rfl,by(try simp only[e]);exact⟨h.1,dV _ _⟩⟩
  .rename_i e;obtain⟨v,h1,j⟩:=fI h;exact⟨v,[],h1,λ_ _=>rfl,by(try simp only[e]);exact j⟩
 case unOp=>obtain⟨v,h1,j⟩:=fI h;exact⟨v,[],h1,λ_ _=>rfl,j⟩
 case convert=>obtain⟨v,h1,j⟩:=fI h;exact⟨v,[],h1,λ_ _=>rfl,j⟩
 case makeFunc fn a b =>
  split at h
  .exact⟨_,_,h,λ_ _=>rfl,dV _ _⟩
  .exact h.elim
 case makeMap t r =>
  split at h
  .rename_i K H I;exact⟨_,_,h,(λG D=>by first|(cases G;done)|(cases D;done)),by(try simp only[H,I]);exact dV _ _⟩
  .rename_i K H I;exact⟨_,_,h,(λG D=>by first|(cases G;done)|(cases D;done)),by(try simp only[H,I]);exact dV _ _⟩
  .exact h.elim
 case makeSlice t l c=>obtain⟨v,bs,h1,j⟩:=FJ h;exact⟨v,bs,h1,(λG D=>by first|(cases G;done)|(cases D;done)),j⟩
 case slice t x lo hi mx =>
  cases mx with
  |none=>obtain⟨v,h1,j⟩:=Wk h;exact⟨v,[],h1,λ_ _=>rfl,j⟩
  |some _=>exact h.elim
 case fieldAddr=>obtain⟨v,h1,j⟩:=fI h;exact⟨v,[],h1,λ_ _=>rfl,j⟩
 case field=>obtain⟨v,h1,j⟩:=fI h;exact⟨v,[],h1,λ_ _=>rfl,j⟩
 case indexAddr=>obtain⟨v,h1,j⟩:=FB h;exact⟨v,[],h1,λ_ _=>rfl,j⟩
 case index=>obtain⟨v,h1,j⟩:=QW h;exact⟨v,[],h1,λ_ _=>rfl,j⟩
 case lookup=>obtain⟨v,h1,j⟩:=NN h;exact⟨v,[],h1,λ_ _=>rfl,j⟩
 case extract=>obtain⟨v,h1,j⟩:=fI h;exact⟨v,[],h1,λ_ _=>rfl,j⟩
 case call c =>
  obtain⟨U,args,Y⟩:=c;cases U with
  |value f=>obtain⟨v,bs,h1,j⟩:=ZI h;exact⟨v,bs,h1,(λG D=>by first|(cases G;done)|(cases D;done)),j⟩
  |invoke r m=>exact h.elim
  |builtin b =>
   cases b<;>simp only[xg]at h ⊢<;>try (exact h.elim)
   split at h
   .rename_i K H;obtain⟨v,h1,j⟩:=Xp h;exact⟨v,[],h1,λ_ _=>rfl,by(try simp only[K,H]);exact j⟩
   .exact h.elim
end
abbrev Ent:=Option Nat×AV×List (Nat×Blk)
def ig:List Ent->St->St
 |[],st=>st
 |e::t,st=>ig t<|st.put e.1 e.2.1 e.2.2
def ie(ops:List Oper)(S:St)(o:Oper)(b:Bool):Prop :=
 match o.guard with
 |none=>b=true
 |some (g,want)=> ∃j d,ops[g]? =some j/\j.dst=some d/\((S.get d= .d (.bool want)/\b=true)\/(S.get d= .d (.bool (!want))/\b=false)\/(S.get d= .tuple []/\b=false))
variable {ops:List Oper}{o:Oper}
def oT{S:St}{I K:Prop}(h:lA ops S o I K):(ie ops S o true/\I)\/(ie ops S o false/\K):=by
 unfold lA at h;unfold ie;split at h
 .rename_i J;(try rw[J]);exact .inl ⟨rfl,h⟩
 .rename_i g want J
  (try rw[J])
  split at h
  .rename_i H j;split at h
   .rename_i d G;split at h
    .rename_i b D;cases want<;>cases b<;>simp only[sI]at h
     .exact .inl ⟨⟨H,d,j,G,.inl ⟨D,rfl⟩⟩,h⟩
     .exact .inr ⟨⟨H,d,j,G,.inr<|.inl ⟨D,rfl⟩⟩,h⟩
     .exact .inr ⟨⟨H,d,j,G,.inr<|.inl ⟨D,rfl⟩⟩,h⟩
     .exact .inl ⟨⟨H,d,j,G,.inl ⟨D,rfl⟩⟩,h⟩
    .rename_i D;exact .inr ⟨⟨H,d,j,G,.inr<|.inr ⟨D,rfl⟩⟩,h⟩
    .exact h.elim
   .exact h.elim
  .exact h.elim
def iB{cx:Cx}{E:Env}{ops:Array Oper}{S st:St}{b:Bool}(h:ie ops.toList S o b)(J:∀d∈looks ops.toList o,st.get d=S.get d){a:Act}{w:World}(K:Sim cx E st a w):Region.wanted o (yielded ops a.tmps)=b:=by
 obtain⟨σ,K⟩:=K;unfold ie at h;unfold Region.wanted;cases H:o.guard with
 |none=>rw[H]at h;exact h.symm
 |some p =>
  obtain⟨g,want⟩:=p;rw[H]at h;obtain⟨U,d,h1,G,N⟩:=h;have D:d∈looks ops.toList o:=by unfold looks;rw[H];simp only[h1,G];simp
  have I:ops[g]? =some U:=by rw[<- bE];exact h1
  have j:=K.aY d;rw[J d D]at j;dsimp only;rcases N with ⟨e,rfl⟩|⟨e,rfl⟩|⟨e,rfl⟩
  .rw[e]at j;rw[uD I G j.bool];simp
  .rw[e]at j;rw[uD I G j.bool];cases want<;>rfl
  .rw[e]at j;have T:a.tmps.getD d Go.undef= .tuple #[]:=by
    generalize a.tmps.getD d Go.undef=u at j
    cases j with|tuple _ vs J _=>rw[Array.eq_empty_of_size_eq_zero J]
   rw[Am I G T];simp
def Good(cx:Cx)(nt:Nat)(ops:List Oper)(o:Oper)(S:St)(e:Ent):Prop :=
 ed nt o.dst=true/\e.1=o.dst/\(∀s,live e.2.2 s-> ¬live S.heap s)/\(oi o.op=false->e.2.2=[]) /\
 ((ie ops S o true/\ ∀R:St,(∀x∈o.op.operands.toList,S.ev cx x=R.ev cx x)->(nK o.op=true->S.heap=R.heap)->(∀t x,o.op= .load t x-> ∀s,mE (S.ev cx x)=some s->find R.heap s=find S.heap s)->de cx o R e.2.1 e.2.2)\/(ie ops S o false/\e.2.1= .tuple []/\e.2.2=[]))
def TL{cx:Cx}{nt:Nat}(W:bC cx){S:St}{K:St->Prop}(Y:ID cx.chg o.op=false)
 (h:lA ops S o (mZ cx nt true o S K) (match ed nt o.dst with|true=>K<|S.put o.dst (.tuple []) []|false=>False)):∃e,Good cx nt ops o S e/\K (S.put e.1 e.2.1 e.2.2):=by
 rcases oT h with ⟨N,h⟩|⟨N,h⟩
 .unfold mZ at h;rw[Y]at h;split at h
  .rename_i h1 j;cases j
  .rename_i H _;have h' :∃v bs,(∀R:St,(∀x∈o.op.operands.toList,S.ev cx x=R.ev cx x)->(nK o.op=true->S.heap=R.heap)->(∀t x,o.op= .load t x-> ∀s,mE (S.ev cx x)=some s->find R.heap s=find S.heap s)->de cx o R v bs)/\(oi o.op=false->xD o.op=false->bs=[])/\(match Wa true o.op bs,tW S.heap bs with|true,true=>K<|S.put o.dst v bs|_,_=>False):=by
    obtain⟨v,bs,hk,hm,U⟩:=FT h;refine⟨v,bs,λR hx hr J=>?_,hm,hk⟩;rw[Hb hx hr J]at U;obtain⟨v',V,ho,rfl,rfl⟩:=uo W U;exact ho
   obtain⟨v,bs,h1,j,D⟩:=h';split at D
   .rename_i X Z;have G:oi o.op=false->bs=[]:=λI=>by
     cases T:xD o.op with
     |false=>exact j I T
     |true =>
      cases bs with
      |nil=>rfl
      |cons x t=>simp[Wa,T]at X
    exact⟨(o.dst,v,bs),⟨H,rfl,uR Z,G,.inl ⟨N,h1⟩⟩,D⟩
   .exact D.elim
  .exact h.elim
 .split at h
  .rename_i H;exact⟨(o.dst,.tuple [],[]),⟨H,rfl,λs hl=>by simp[live,find]at hl,λ_=>rfl,.inr ⟨N,rfl,rfl⟩⟩,h⟩
  .exact h.elim
def yw(l m:List Ent)(st:St):ig (l++m) st=ig m (ig l st):=by
 induction l generalizing st with
 |nil=>rfl
 |cons e t j=>exact j _
def wT(cx:Cx)(nt:Nat)(ops:List Oper)(st0:St)(res:List Ent)(n:Nat):Prop :=
 ∀j,j<n-> ∃o e,ops[j]? =some o/\res[j]? =some e/\Good cx nt ops o (ig (res.take j) st0) e
variable {st0:St}
def trace{cx:Cx}{nt:Nat}(X:bC cx){k:St->Prop}:∀(r i:Nat) (res:List Ent),i+r=eP cx.chg ops->res.length=i->wT cx nt ops st0 res i->sB cx nt true ops (ops.drop i) k (ig res st0) ->
 ∃D,D.length=eP cx.chg ops/\wT cx nt ops st0 D (eP cx.chg ops)/\sB cx nt true ops (ops.drop<|eP cx.chg ops) k (ig D st0):=by
 intro r;induction r with
 |zero =>
  intro i res Z I J h;obtain rfl:i=eP cx.chg ops:=by omega
  exact⟨res,I,J,h⟩
 |succ r ih =>
  intro i res Z I J h;obtain⟨o,T,Y⟩:=Kk (mt:=cx.chg) (l:=ops) (i:=i) (by omega);have N:i<ops.length:=(aA.1 T).1;have G:ops.drop i=o::ops.drop (i+1):=by
   rw[List.drop_eq_getElem_cons N]
   congr 1
   exact(aA.1 T).2
  rw[G]at h;simp only[sB]at h;obtain⟨e,H,hk⟩:=TL X Y h;refine ih (i+1) (res++[e]) (by omega) (by simp[I]) (λj hj=>?_) (by rw[yw];exact hk);by_cases K:j<i
  .obtain⟨o',U,h1,V,W⟩:=J j K;refine⟨o',U,h1,by rw[dm<|by omega];exact V,?_⟩;rw[List.take_append_of_le_length<|by omega];exact W
  .obtain rfl:j=i:=by omega
   refine⟨o,e,T,by rw[cL<|by omega,I];simp,?_⟩;rw[List.take_append_of_le_length<|by omega,List.take_of_length_le<|by omega];exact H
structure At(st0:St)(res:List Ent)(L:Nat->Bool)(st:St):Prop where
 slot:∀t,(∃j e,L j=true/\res[j]? =some e/\e.1=some t/\st.get t=e.2.1)\/((∀j e,L j=true->res[j]? =some e->e.1≠some t)/\st.get t=st0.get t)
 heap:∀s,(∃j e b,L j=true/\res[j]? =some e/\find e.2.2 s=some b/\find st.heap s=some b)\/((∀j e,L j=true->res[j]? =some e-> ¬live e.2.2 s)/\find st.heap s=find st0.heap s)
variable {res:List Ent}
def At.step{L Y :Nat->Bool}{st:St}(h:At st0 res L st){i:Nat}{e:Ent}(U:res[i]? =some e)(N:∀j,Y j=true ↔ (L j=true\/j=i)):At st0 res Y<|st.put e.1 e.2.1 e.2.2:=by
 refine⟨λt=>?_,λs=>?_⟩
 .rw[St.gY];by_cases V:e.1=some t
  .rw[if_pos V];exact .inl ⟨i,e,(N i).2<|.inr rfl,U,V,rfl⟩
  .rw[if_neg V];rcases h.slot t with ⟨j,I,h1,J,W,X⟩|⟨h1,J⟩
   .exact .inl ⟨j,I,(N j).2<|.inl h1,J,W,X⟩
   .refine .inr ⟨λj I K D =>?_,J⟩;rcases (N j).1 K with K|rfl
    .exact h1 j I K D
    .rw[U]at D;cases D;exact V
 .show _\/(_/\find (e.2.2++st.heap) s=_)
  have G:find (st.put e.1 e.2.1 e.2.2).heap s=(find e.2.2 s).or (find st.heap s):=vJ _ _ _;cases T:find e.2.2 s with
  |some b=>exact .inl ⟨i,e,b,(N i).2<|.inr rfl,U,T,by rw[G,T];rfl⟩
  |none =>
   rw[T]at G;have H :find (st.put e.1 e.2.1 e.2.2).heap s=find st.heap s:=by simpa using G
   rcases h.heap s with ⟨j,I,b,h1,J,W,X⟩|⟨h1,J⟩
   .exact .inl ⟨j,I,b,(N j).2<|.inl h1,J,W,H.trans X⟩
   .refine .inr ⟨λj I K D =>?_,H.trans J⟩;rcases (N j).1 K with K|rfl
    .exact h1 j I K D
    .rw[U]at D;cases D;unfold live;rw[T];simp
def Jq:∀(i:Nat),i<=res.length->At st0 res (λj=>decide<|j<i) (ig (res.take i) st0):=by
 intro i;induction i with
 |zero=>intro _;exact⟨λt=> .inr ⟨λj e D=>by simp at D,rfl⟩,λs=> .inr ⟨λj e D=>by simp at D,rfl⟩⟩
 |succ i H =>
  intro I;have G:res[i]? =some res[i]:=ao (by omega);rw[List.take_succ_eq_append_getElem<|by omega,yw];exact(H<|by omega).step G (λj=>by simp;omega)
def zk{f:Nat->AV}:∀{l:List Nat} {t:Nat},find (l.map λx=>(x,f x)) t=if t∈l then some (f t)else none
 |[],t=>by simp[find]
 |x::l,t=>by
  rw[List.map_cons];by_cases h:x=t
  .subst h;rw[bo];simp
  .rw[bp _ _ h,zk];simp[show ¬t=x from λe=>h e.symm]
section
variable {cx:Cx} {nt:Nat} {ops:List Oper} {st0:St} {res:List Ent} {cl:Nat->List Nat} {m:Nat}
def mO(X:wT cx nt ops st0 res m)(hl:res.length=m){j:Nat}{e:Ent}{s:Nat}(Y:j<m)(W:res[j]? =some e)(Z:live e.2.2 s):(∀J H,J <j->res[J]? =some H -> ¬live H.2.2 s)/\ ¬live st0.heap s:=by
 obtain⟨o,e0,_,I,_,_,V,_⟩:=X j Y;rw[W]at I;cases I;have D:=V s Z;have K:=(Jq (st0:=st0) (res:=res) j<|by omega).heap s;rcases K with ⟨j1,e1,b,_,_,_,U⟩|⟨h1,I⟩
 .exact absurd (aH.2 ⟨b,U⟩) D
 .refine⟨λJ H T N =>h1 J H (by simpa using T) N,λG=>D ?_⟩;unfold live at G ⊢;rw[I];exact G
def vg(T:wT cx nt ops st0 res m)(I:res.length=m){j H :Nat}{e J :Ent}{s:Nat}(K:res[j]? =some e)(D :res[H]? =some J)(U:live e.2.2 s)(G :live J.2.2 s):j=H :=by
 have V:j<m:=by rw[<- I];exact(aA.1 K).1
 have N :H <m:=by rw[<- I];exact(aA.1 D).1
 rcases Nat.lt_trichotomy j H with h|h|h
 .exact absurd U<|(mO T I N D G).1 j e h K
 .exact h
 .exact absurd G<|(mO T I V K U).1 H J h D
def yY(J:wT cx nt ops st0 res m){j:Nat}{e:Ent}(K:j<m)(I:res[j]? =some e):∃o,ops[j]? =some o/\e.1=o.dst/\(oi o.op=false->e.2.2=[]):=by
 obtain⟨o,N,h1,D,_,G,_,H,_⟩:=J j K;rw[I]at D;cases D;exact⟨o,h1,G,H⟩
def Ll(hp:VA ops cl m)(U:wT cx nt ops st0 res m)(W:res.length=m){j H :Nat}{e N :Ent}{t:Nat}(T:res[j]? =some e)(D :res[H]? =some N)(Y:e.1=some t)(K :N.1=some t):j=H :=by
 have V:j<m:=by rw[<- W];exact(aA.1 T).1
 have G :H <m:=by rw[<- W];exact(aA.1 D).1
 obtain⟨o,h1,X,_⟩:=yY U V T;obtain⟨o',I,J,_⟩:=yY U G D;rcases Nat.decEq j H with hM|h
 .exact absurd (X ▸ Y)<|hp.dst j o h1 V H o' t I G hM<|J ▸ K
 .exact h
def agree(hp:VA ops cl m)(X:wT cx nt ops st0 res m)(hl:res.length=m){L:Nat->Bool}{st:St}(T:At st0 res L st)(Z:∀j,L j=true-> ∀x∈cl j,L x=true){i:Nat}{o:Oper}(hi:i<m)(ho:ops[i]? =some o)(hB:L i=false)
 (hA:∀x∈cl i,L x=true) :
 (∀d∈looks ops o,st.get d=(ig (res.take i) st0).get d)/\(nK o.op=true-> ∀s b,find (ig (res.take i) st0).heap s=some b->find st.heap s=some b)/\(∀s b,live st.heap s->find (ig (res.take i) st0).heap s=some b->find st.heap s=some b):=by
 have K:=Jq (st0:=st0) (res:=res) i (by omega);have H:∀{j:Nat} {e:Ent},res[j]? =some e->j<m:=λh=>by rw[<- hl];exact(aA.1 h).1
 refine⟨λd hd=>?_,λhr s b V=>?_,λs b xd V=>?_⟩
 .rcases T.slot d with ⟨j,e,h1,G,N,h4⟩|⟨h1,G⟩
  .have hj:=H G;obtain⟨oj,U,kM,_⟩:=yY X hj G;have hM:i≠j:=λe=>by subst e;rw[hB]at h1;cases h1
   have kp:=hp.look i o ho hi j oj d U hj hM (kM ▸ N) hd;have xw:j<i:=by
    rcases Nat.lt_trichotomy i j with h|h|h
    .have:=Z j h1 i<|kp.2 h;rw[hB]at this;cases this
    .exact absurd h hM
    .exact h
   rcases K.slot d with ⟨Y,e',W,D,I,q4⟩|⟨W,_⟩
   .obtain rfl:=Ll hp X hl G D N I;rw[G]at D;cases D;rw[h4,q4]
   .exact absurd N<|W j e (by simpa using xw) G
  .rcases K.slot d with ⟨Y,e',W,D,I,q4⟩|⟨_,D⟩
   .have xc :=H D;obtain⟨oj,U,kM,_⟩:=yY X xc D;have ka:Y <i:=by simpa using W
    have:=hA Y<|(hp.look i o ho hi Y oj d U xc (by omega) (kM ▸ I) hd).1 ka;exact absurd I<|h1 Y e' this D
   .rw[G,D]
 .rcases K.heap s with ⟨j,e,b',h1,G,N,h4⟩|⟨h1,G⟩
  .rw[h4]at V;cases V;have hj:=H G;have ka:j<i:=by simpa using h1
   obtain⟨oj,U,_,xB⟩:=yY X hj G;have xx:oi oj.op=true:=by
    cases hm:oi oj.op with
    |true=>rfl
    |false=>rw[xB hm]at N;cases N
   have xn:=hA j<|hp.read i o ho hi j oj U ka hr xx;rcases T.heap s with ⟨Y,e',J,W,D,I,q4⟩|⟨W,_⟩
   .obtain rfl:=vg X hl G D (aH.2 ⟨b,N⟩)<|aH.2 ⟨J,I⟩;rw[G]at D;cases D;rw[N]at I;cases I;exact q4
   .exact absurd (aH.2 ⟨b,N⟩)<|W j e xn G
  .rw[G]at V;rcases T.heap s with ⟨Y,e',J,W,D,I,_⟩|⟨_,D⟩
   .exact absurd (aH.2 ⟨b,V⟩) (mO X hl (H D) D<|aH.2 ⟨J,I⟩).2
   .rw[D];exact V
 .rcases K.heap s with ⟨j,e,b',h1,G,N,h4⟩|⟨h1,G⟩
  .rw[h4]at V;cases V;rcases T.heap s with ⟨Y,e',J,W,D,I,q4⟩|⟨W,D⟩
   .obtain rfl:=vg X hl G D (aH.2 ⟨b,N⟩)<|aH.2 ⟨J,I⟩;rw[G]at D;cases D;rw[N]at I;cases I;exact q4
   .refine absurd ?_ (mO X hl (H G) G<|aH.2 ⟨b,N⟩).2;unfold live at xd ⊢;rw[<- D];exact xd
  .rw[G]at V;rcases T.heap s with ⟨Y,e',J,W,D,I,_⟩|⟨_,D⟩
   .exact absurd (aH.2 ⟨b,V⟩) (mO X hl (H D) D<|aH.2 ⟨J,I⟩).2
   .rw[D];exact V
end
def xV(cx:Cx)(S:St)(o:Oper):List (Nat×Blk) :=
 match o.op with
 | .load _ x=>(match mE (S.ev cx x)with|some s=>(match find S.heap s with|some b=>[(s,b)]|none=>[])|none=>[])
 |op=>if nK op then S.heap else[]
variable {cx:Cx}{S:St}{o:Oper}
def RE(h:nK o.op=true):xV cx S o=S.heap:=by
 unfold xV;split
 .rename_i e;rw[e]at h;cases h
 .rename_i op _;exact if_pos h
variable {x:Operand}{s:Nat}
def RD{t:TypeId}(h:o.op= .load t x)(D:mE (S.ev cx x)=some s):find (xV cx S o) s=find S.heap s:=by
 unfold xV;rw[h];simp only[D];split
 .rename_i b j;rw[bo,j]
 .rename_i j;rw[j];rfl
def RC{b:Blk}(h:find (xV cx S o) s=some b):find S.heap s=some b/\(nK o.op=true\/ ∃t x,o.op= .load t x/\mE (S.ev cx x)=some s):=by
 unfold xV at h;split at h
 .rename_i t x e;split at h
  .rename_i I H;split at h
   .rename_i J D;by_cases j :I =s
    .subst j;rw[bo]at h;cases h;exact⟨D,.inr ⟨t,x,e,H⟩⟩
    .rw[bp _ _ j]at h;cases h
   .cases h
  .cases h
 .split at h
  .rename_i G;exact⟨h,.inl G⟩
  .cases h
variable {st:St}{a:Act}{w:World}
def UP{E:Env}(D:Sim cx E st a w)(h:mE (S.ev cx x)=some s)(G:∀t,x= .tmp t->st.get t=S.get t):live st.heap s:=by
 obtain⟨σ,D⟩:=D;cases x with
 |tmp t =>
  have j:=D.aY t;rw[G t rfl]at j;have h' :mE (S.get t)=some s:=h;generalize S.get t=v at j h';generalize a.tmps.getD t Go.undef=u at j;cases j<;>first|(cases h';assumption)|cases h'
 |const v =>
  exfalso
  have h' :mE (ofConst v)=some s:=h;unfold ofConst at h';split at h'
  .cases h'
  .unfold pr at h';split at h'<;>cases h'
 |global g =>
  exfalso
  have h' :mE (match cx.gl g with|some cells=>AV.d<|.ptr cells|none=> .undef)=some s:=h;split at h'<;>cases h'
 |func f=>cases h
def Dk{p p' :Nat->Bool}(h:∀j,p' j=true->p j=true){i:Nat}(h1:p i=true)(J:p' i=false):∀{l:List Nat},i∈l->(l.filter p').length<(l.filter p).length:=by
 have G:∀l:List Nat,(l.filter p').length<=(l.filter p).length:=by
  intro l;induction l with
  |nil=>simp
  |cons x t I =>
   simp only[List.filter_cons];cases H:p' x with
   |true=>rw[h x H];simp;exact I
   |false=>cases p x<;>simp<;>omega
 intro l;induction l with
 |nil=>intro D;cases D
 |cons x t I =>
  intro D;simp only[List.filter_cons];rcases List.mem_cons.1 D with rfl|D
  .rw[h1,J];simp;have:=G t;omega
  .have:=I D;cases H:p' x with
   |true=>rw[h x H];simp;exact this
   |false=>cases p x<;>simp<;>omega
def jF{ops:Array Oper}{j:Array Bool}(V:j.size=ops.size){i:Nat}:i∈Region.ready .any ops j ↔ ∃o,ops.toList[i]? =some o/\j.getD i false=false/\ ∀e∈gL o,j.getD e false=true:=by
 unfold Region.ready;simp only[List.mem_filter,List.mem_range,aK];constructor
 .rintro⟨I,h1,H⟩;have G:ops[i]? =some ops[i]:=Array.getElem?_eq_getElem I;refine⟨ops[i],by rw[bE];exact G,?_,λe U=>?_⟩
  .have D :i<j.size:=by omega
   simp[D]at h1 ⊢;exact h1
  .rw[G]at H;simp only[Option.map_some,Option.getD_some,Array.all_eq_true_iff_forall_mem]at H;obtain⟨x,J,rfl⟩:=List.mem_map.1 U;obtain⟨K,N⟩:=List.mem_filter.1 J;have:=H x (by simpa using K);simpa [N] using this
 .rintro⟨o,G,h1,H⟩;have I:i<ops.size:=by have:=(aA.1 G).1;simpa using this
  have D :i<j.size:=by omega
  refine⟨I,by simp[D]at h1 ⊢;exact h1,?_⟩;rw[bE]at G;rw[G];simp only[Option.map_some,Option.getD_some,Array.all_eq_true_iff_forall_mem];intro x J;cases T:Region.binds .any x with
  |false=>simp
  |true =>
   have:=H x.on<|List.mem_map.2 ⟨x,List.mem_filter.2 ⟨by simpa using J,T⟩,rfl⟩;simpa using this
def DZ(Q:Exit->Act->World->Prop):Exit->Act->World->Prop
 | .normal,a,w=>Q .normal a w
 |_,_,_=>False
variable {K:Act->World->Prop}
def NF{P:Program}(G:KB o.op=true)(h:o.wp P a w K λ_ _ _=>False):∃z,(∀w',(execOp a.eval o).run P w' = .ok (.value z) w')/\K (a.put o.dst z) w:=by
 cases D:o.op<;>rw[D]at G<;>try (cases G;done)
 case extract x i =>
  unfold Oper.wp at h;have j:∀w',(execOp a.eval o).run P w' =(do let v <- Instr.extract (a.eval x) i;pure (.value v):Sem Next).run P w' :=λw' =>by simp only[execOp,D]
  rw[j]at h;unfold Instr.extract at h j;split at h
  .rename_i vs;split at h
   .rename_i v H;refine⟨v,λw' =>?_,?_⟩
    .rw[j w'];simp_all
    .simpa [Oper.upon] using h
   .simp[Oper.upon,Sem.run,stuck]at h
  .simp[Oper.upon,Sem.run,stuck]at h
 case move x =>
  unfold Oper.wp at h;simp only[execOp,D]at h ⊢;exact⟨a.eval x,λw' =>rfl,by simpa [Oper.upon] using h⟩
variable {nt:Nat}{Q:Exit->Act->World->Prop}
def Tv(hT:bC cx){ops:Array Oper}{E:Env}(hn:E.nt=nt){k:St->Prop}(h:QC cx nt ops.toList k st)(W:Sim cx E st a w)
 (hQ:∀st' a' w',k st' ->Sim cx E st' a' w' ->Q .normal a' w'):wpAny cx.P .any ops (DZ Q) ops.size (Array.replicate ops.size false) a {w with drawn:=w.drawn+1}:=by
 replace hQ:∀st' a' w',k st' ->Sim cx E st' a' w' ->DZ Q .normal a' w' :=hQ;have xa:∀c a w,¬DZ Q (.panic c) a w:=λc a w h=>h
 generalize DZ Q=Q at hQ xa ⊢
 obtain⟨ku,hG⟩:=h;obtain⟨cl,hp⟩:=aaz ku;obtain⟨res,hl,hg,ky⟩:=trace (cx:=cx) (nt:=nt) (ops:=ops.toList) (st0:=st) (k:=k) hT (eP cx.chg ops.toList) 0 [] (by omega) rfl (λj G=>by omega) (by simpa [ig] using hG);have xy:eP cx.chg ops.toList<=ops.size:=by simpa using Kj (mt:=cx.chg) ops.toList
 have kV:Sim cx E st a {w with drawn:=w.drawn+1}:=by
  obtain⟨σ,W⟩:=W;have hk:bx w {w with drawn:=w.drawn+1} (Own E.O (live st.heap) σ) (Own E.O (live st.heap) σ):=⟨Nat.le_refl _,λ_ _ _=>rfl,λ_ h _=>h⟩
  have hJ:∀s,live st.heap s->live st.heap s/\σ s=σ s:=λs h=>⟨h,rfl⟩
  exact⟨σ,⟨W.frame.os,W.frame.tape,W.frame.output,W.frame.size,W.frame.block⟩,W.new,W.apart,W.defers,W.nt,λt=>(W.aY t).mono hk hJ,
   ⟨λs b hb=>du.mono hk hJ (aH.2 ⟨b,hb⟩) (λ_ _=>rfl)<|W.holds.blk s b hb,W.holds.inj⟩,W.gR,W.ee,W.fix⟩
 have getSet:∀(D:Array Bool) (i j:Nat),i<D.size->(D.setIfInBounds i true).getD j false=if j=i then true else D.getD j false:=by
  intro D i j hi;simp only[bU];by_cases e:j=i
  .subst e;simp[hi]
  .rw[if_neg e,Array.getElem?_setIfInBounds_ne λh=>e h.symm]
 let Ph1 (D:Array Bool) (a:Act) (w:World):Prop:= ∃s,(∀j,eP cx.chg ops.toList<=j->D.getD j false=false)/\At st res (λj=>D.getD j false) s/\Sim cx E s a w
 let Ph2 (D:Array Bool) (a:Act) (w:World):Prop:= ∃q s,eP cx.chg ops.toList<=q/\q<=ops.size/\(∀j,D.getD j false=decide (j<q))/\sB cx nt true ops.toList (ops.toList.drop q) k s/\Sim cx E s a w
 have norm:∀(D:Array Bool) (a:Act) (w:World),Ph1 D a w->(∀j,j<eP cx.chg ops.toList->D.getD j false=true)->Ph2 D a w:=by
  rintro D a w ⟨s,h1,T,W⟩ N;refine⟨eP cx.chg ops.toList,ig res st,Nat.le_refl _,xy,λj=>?_,ky,?_⟩
  .by_cases G:j<eP cx.chg ops.toList
   .rw[N j G];simp[G]
   .rw[h1 j<|by omega];simp[G]
  .have hG:=Jq (st0:=st) (res:=res) (eP cx.chg ops.toList) (by omega);rw[List.take_of_length_le<|by omega]at hG;have hP:∀{j:Nat} {e:Ent},res[j]? =some e->j<eP cx.chg ops.toList:=λh=>by rw[<- hl];exact(aA.1 h).1
   refine W.ext (λt=>?_) λx=>?_
   .rcases T.slot t with ⟨j,e,q1,q2,q3,q4⟩|⟨q1,q2⟩<;>rcases hG.slot t with ⟨j',e',r1,Y,r3,r4⟩|⟨r1,Y⟩
    .obtain rfl:=Ll hp hg hl q2 Y q3 r3;rw[q2]at Y;cases Y;rw[q4,r4]
    .exact absurd q3<|r1 j e (by simpa using hP q2) q2
    .exact absurd r3<|q1 j' e' (N j'<|hP Y) Y
    .rw[q2,Y]
   .rcases T.heap x with ⟨j,e,b,q1,q2,q3,q4⟩|⟨q1,q2⟩<;>rcases hG.heap x with ⟨j',e',b',r1,Y,r3,r4⟩|⟨r1,Y⟩
    .obtain rfl:=vg hg hl q2 Y (aH.2 ⟨b,q3⟩)<|aH.2 ⟨b',r3⟩;rw[q2]at Y;cases Y;rw[q3]at r3;cases r3;rw[q4,r4]
    .exact absurd (aH.2 ⟨b,q3⟩)<|r1 j e (by simpa using hP q2) q2
    .exact absurd (aH.2 ⟨b',r3⟩)<|q1 j' e' (N j'<|hP Y) Y
    .rw[q2,Y]
 have done:∀(D:Array Bool) (a:Act) (w:World),(Ph1 D a w\/Ph2 D a w)->(∀j,j<ops.size->D.getD j false=true)->Q .normal a w:=by
  intro D a w ki N;have h2:Ph2 D a w:=ki.elim (λh=>norm D a w h λj G=>N j<|by omega) λh=>h;obtain⟨q,s,h1,h2,h3,h4,h5⟩:=h2;have hq:q=ops.size:=by
   rcases Nat.lt_or_ge q ops.size with ka|xt
   .have:=N q ka;rw[h3 q]at this;simp at this
   .omega
  rw[List.drop_of_length_le<|by simp;omega]at h4;exact hQ s a w h4 h5
 have prog:∀(D:Array Bool),D.size=ops.size->Region.ready .any ops D=[]-> ∀j,j<ops.size->D.getD j false=true:=by
  intro D X hr j;induction j using Nat.strongRecOn with
  |_ j ih =>
   intro G;cases hlj:D.getD j false with
   |true=>rfl
   |false =>
    have Z:ops.toList[j]? =some ops[j]:=by rw[bE];exact Array.getElem?_eq_getElem G
    have:j∈Region.ready .any ops D:=(jF X).2 ⟨ops[j],Z,hlj,λe he=>by
     have:=(hp.QD j _ Z e he).1;exact ih e this<|by omega⟩
    rw[hr]at this;cases this
 have hU : ∀ (D : Array Bool) (s : St) (a : Act) (w : World) (i : Nat) (o : Oper), At st res (fun j => D.getD j false) s -> Sim cx E s a w -> (∀ j, D.getD j false = true -> ∀ x ∈ cl j, D.getD x false = true) -> i < eP cx.chg ops.toList -> ops.toList[i]? = some o ->
     D.getD i false=false->(∀x∈cl i,D.getD x false=true)-> ∃e,res[i]? =some e/\e.1=o.dst/\((Region.wanted o (yielded ops a.tmps)=true/\ ∀Q0,o.wp cx.P a w (λa' w' =>Sim cx E (s.put e.1 e.2.1 e.2.2) a' w') Q0) \/
      (Region.wanted o (yielded ops a.tmps)=false/\Sim cx E (s.put e.1 e.2.1 e.2.2) (a.put o.dst Go.undef) w)):=by
  intro D s a w i o T J I kn Z hB hA;obtain⟨o2,e,g1,g2,hd,gd,gf,gm,kk⟩:=hg i kn;rw[Z]at g1;cases g1;obtain⟨kB,xk,xl⟩:=agree hp hg hl T I kn Z hB hA;have km:∀x,o.dst=some x->x<E.nt:=by rw[hn];exact eC hd
  refine⟨e,g2,gd,?_⟩;rcases kk with ⟨gw,kj⟩|⟨gw,gv,gb⟩
  .refine .inl ⟨iB gw kB J,λQ0=>?_⟩
   let R:St:=⟨(looks ops.toList o).map λt=>(t,(ig (res.take i) st).get t),xV cx (ig (res.take i) st) o⟩
   have hR:∀t,R.get t=if t∈looks ops.toList o then(ig (res.take i) st).get t else .undef:=λt=>by
    show(match find ((looks ops.toList o).map λt=>(t,(ig (res.take i) st).get t)) t with|some v=>v|none=> .undef)=_
    rw[zk];split<;>simp_all
   have ks:=kj R (λx hx=>by
    cases x with
    |tmp t =>
     show(ig (res.take i) st).get t=R.get t
     rw[hR,if_pos];unfold looks;exact List.mem_append.2<|.inl<|List.mem_filterMap.2 ⟨.tmp t,hx,rfl⟩
    |const v=>rfl
    |global g=>rfl
    |func f=>rfl) (λhr=>(RE hr).symm) λt x he z hz=>RD he hz
   have hle:R.le s:=⟨λt=>by
    rw[hR];split
    .rename_i ht;exact .inr<|kB t ht
    .exact .inl rfl,λx b hb=>by
    obtain⟨xb,xo⟩:=RC (o:=o) hb;rcases xo with hr|⟨t,y,he,hz⟩
    .exact xk hr x b xb
    .refine xl x b (UP J hz λt' xI =>kB t' ?_) xb;subst xI;unfold looks;exact List.mem_append.2<|.inl<|List.mem_filterMap.2 ⟨.tmp t',by rw[he];simp[Op.operands],rfl⟩⟩
   have xr:∀x,live e.2.2 x-> ¬live s.heap x:=λx hx kL=>by
    obtain⟨xN,kv⟩:=mO hg hl kn g2 hx;rcases T.heap x with ⟨j,e',b,r1,Y,r3,_⟩|⟨_,Y⟩
    .have:=vg hg hl g2 Y hx<|aH.2 ⟨b,r3⟩;subst this;rw[hB]at r1;cases r1
    .unfold live at kL kv;rw[Y]at kL;exact kv kL
   have:=ks.1 E s a w Q0 hle km xr J;rw[<- gd]at this;exact this
  .refine .inr ⟨iB gw kB J,?_⟩;have xC:=jk (d:=o.dst) km J;rw[gd,gv,gb];exact xC
 have key : ∀ (K : Nat) (D : Array Bool) (a : Act) (w : World), D.size = ops.size -> ((List.range ops.size).filter fun j => !D.getD j false).length <= K -> (∀ j, D.getD j false = true -> ∀ x ∈ cl j, D.getD x false = true) ->
     (Ph1 D a w\/Ph2 D a w)->wpAny cx.P .any ops Q K D a w:=by
  intro K;induction K with
  |zero =>
   intro D a w X hY I ki;have N:∀j,j<ops.size->D.getD j false=true:=λj G=>by
    cases h:D.getD j false with
    |true=>rfl
    |false =>
     have:j∈(List.range ops.size).filter λj=> !D.getD j false:=List.mem_filter.2 ⟨List.mem_range.2 G,by simp[h]⟩
     have:=List.length_pos_of_mem this;omega
   refine⟨?_,done D a w ki N⟩;rw[List.eq_nil_iff_forall_not_mem];intro i hi;obtain⟨o,Z,h1,_⟩:=(jF X).1 hi;have:i<ops.size:=by have:=(aA.1 Z).1;simpa using this
   rw[N i this]at h1;cases h1
  |succ K ih =>
   intro D a w X hY I ki;by_cases hS:Ph1 D a w/\ ∃x ox,x<eP cx.chg ops.toList/\Vx ops.toList (cl x) x/\ops.toList[x]? =some ox/\D.getD x false=false/\ ∀e∈gL ox,D.getD e false=true
   .obtain⟨⟨s,h1,T,J⟩,x,ox,xJ,hL,V,kX,kY⟩:=hS;have hX:∀y∈cl x,D.getD y false=true:=λy hy=>by
     obtain⟨_,e,he,hh⟩:=hp.least x ox V y hy;rcases hh with rfl|hh
     .exact kY e he
     .exact I e (kY e he) y hh
    have kZ:x<ops.size:=by omega
    have H:∀j,(D.setIfInBounds x true).getD j false=if j=x then true else D.getD j false:=λj=>getSet D x j (by omega)
    obtain⟨e,g2,gd,kk⟩:=hU D s a w x ox T J I xJ V kX hX;obtain⟨xO,kt,ka⟩:=hL.op;rw[V]at kt;cases kt;have kP:ops[x]? =some ox:=by rw[<- bE];exact V
    obtain⟨v,hy,xF⟩:∃v,Yields cx.P ops ox v a/\Sim cx E (s.put e.1 e.2.1 e.2.2) (a.put ox.dst v) w:=by
     rcases kk with ⟨gw,kj⟩|⟨gw,gs⟩
     .obtain⟨z,xK,xL⟩:=NF ka (kj λ_ _ _=>False);exact⟨z,.inl ⟨gw,xK⟩,xL⟩
     .exact⟨_,.inr ⟨gw,rfl⟩,gs⟩
    refine wpAny_first (v:=v) kP (λj o cs b Z=>hL.sel o (Array.mem_toList_iff.2<|Array.mem_of_getElem? Z) cs b) (λc a w hh=>absurd hh<|xa c _ w) K D a w
     (λj oj G hM kA xA=>by
      have xv:j ∉ cl x:=λhm=>by
       have h1:=hX j hm;simp only[bU]at h1 kA;cases hh:D[j]? with
       |none=>rw[hh]at h1;cases h1
       |some b=>rw[hh]at h1 kA;simp at h1 kA;rw[h1]at kA;cases kA
      have:=hL.free ox j oj V (by rw[bE];exact G) hM xv xA;simpa using this) ((jF X).2 ⟨ox,V,kX,kY⟩) hy ?_
    refine ih _ _ _ (by simp [X]) ?_ ?_ (.inl ⟨_, fun j G => by rw [H, if_neg<|by omega]; exact h1 j G, T.step g2 (fun j => by
        show(D.setIfInBounds x true).getD j false=true ↔ _
        rw[H];split
        .simp_all
        .simp_all),xF⟩)
    .have:=Dk (p:=λj=> !D.getD j false) (p' :=λj=> !(D.setIfInBounds x true).getD j false) (λj G=>by
      rw[H]at G;split at G
      .simp at G
      .exact G) (i:=x) (by simp only[kX];rfl) (by rw[H];simp)<|List.mem_range.2 kZ
     omega
    .intro j G y hy;rw[H];split
     .rfl
     .rw[H]at G;split at G
      .rename_i e;subst e;exact hX y hy
      .exact I j G y hy
   refine⟨λhr=>done D a w ki<|prog D X hr,λi hi=>?_⟩;obtain⟨o,Z,hB,ha⟩:=(jF X).1 hi;have kD:i<ops.size:=by have:=(aA.1 Z).1;simpa using this
   have kh :ops[i]? =some o:=by rw[<- bE];exact Z
   have hA:∀x∈cl i,D.getD x false=true:=λx hx=>by
    obtain⟨_,e,he,hh⟩:=hp.least i o Z x hx;rcases hh with rfl|hh
    .exact ha e he
    .exact I e (ha e he) x hh
   have H:∀j,(D.setIfInBounds i true).getD j false=if j=i then true else D.getD j false:=λj=>getSet D i j (by omega)
   have hK :(D.setIfInBounds i true).size=ops.size:=by simp[X]
   have hf :((List.range ops.size).filter λj=> !(D.setIfInBounds i true).getD j false).length<=K:=by
    have:=Dk (p:=λj=> !D.getD j false) (p' :=λj=> !(D.setIfInBounds i true).getD j false) (λj G=>by
     rw[H]at G;split at G
     .simp at G
     .exact G) (i:=i) (by simp only[hB];rfl) (by rw[H];simp)<|List.mem_range.2 kD
    omega
   have hC :∀j,(D.setIfInBounds i true).getD j false=true-> ∀x∈cl j,(D.setIfInBounds i true).getD x false=true:=λj G x hx=>by
    rw[H];split
    .rfl
    .rw[H]at G;split at G
     .rename_i e;subst e;exact hA x hx
     .exact I j G x hx
   unfold wpOp;rw[kh];dsimp only;have kS :(Ph1 D a w/\ ∃j,j<eP cx.chg ops.toList/\D.getD j false=false)\/Ph2 D a w:=by
    rcases ki with h|h
    .by_cases hex:∃j,j<eP cx.chg ops.toList/\D.getD j false=false
     .exact .inl ⟨h,hex⟩
     .exact .inr (norm D a w h λj G=>by
       cases hh:D.getD j false with
       |true=>rfl
       |false=>exact absurd ⟨j,G,hh⟩ hex)
    .exact .inr h
   rcases kS with ⟨⟨s,h1,T,J⟩,jx,kH,ko⟩|⟨q,s,h1,h2,h3,h4,h5⟩
   .have kn:i<eP cx.chg ops.toList:=by
     rcases Nat.lt_or_ge i (eP cx.chg ops.toList)with h|h
     .exact h
     .rcases hp.tail i o Z h jx (by omega)with ht|⟨ht1,ht2,ht3⟩
      .have:=hA jx ht;rw[ko]at this;cases this
      .obtain⟨ox,V,_⟩:=ht2.op;exact absurd ⟨⟨s,h1,T,J⟩,jx,ox,kH,ht2,V,ko,λe he=>hA e<|ht3 ox V e he⟩ hS
    obtain⟨e,g2,gd,kk⟩:=hU D s a w i o T J I kn Z hB hA;have U:∀{a' :Act} {w' :World},Sim cx E (s.put e.1 e.2.1 e.2.2) a' w' ->wpAny cx.P .any ops Q K (D.setIfInBounds i true) a' w' :=λkb =>
     ih _ _ _ hK hf hC (.inl ⟨_,λj G=>by rw[H,if_neg<|by omega];exact h1 j G,T.step g2 (λj=>by
      show(D.setIfInBounds i true).getD j false=true ↔ _
      rw[H];split
      .simp_all
      .simp_all),kb⟩)
    rcases kk with ⟨gw,kj⟩|⟨gw,gs⟩
    .rw[gw,if_pos rfl];exact .inl<|Oper.wp_mono (λa' w' kb =>U kb)<|kj Q
    .rw[gw];simp only[eV,if_false];exact U gs
   .have xu:i=q:=by
     have xt:q<=i:=by
      rcases Nat.lt_or_ge i q with h|h
      .rw[h3 i]at hB;simp at hB;omega
      .exact h
     rcases Nat.lt_or_ge q i with h|h
     .rcases hp.tail i o Z (by omega) q h with ht|⟨ht1,_⟩
      .have:=hA q ht;rw[h3 q]at this;simp at this
      .omega
     .omega
    subst xu;have kl:ops.toList.drop i=o::ops.toList.drop (i+1):=by
     rw[List.drop_eq_getElem_cons<|by simpa using kD]
     congr 1
     exact(aA.1 Z).2
    rw[kl]at h4;simp only[sB]at h4;have U:∀{s' :St} {a' :Act} {w' :World},sB cx nt true ops.toList (ops.toList.drop<|i+1) k s' ->Sim cx E s' a' w' ->wpAny cx.P .any ops Q K (D.setIfInBounds i true) a' w' :=λhk kb =>
     ih _ _ _ hK hf hC (.inr ⟨i+1,_,by omega,by omega,λj=>by
      rw[H,h3 j];split
      .rename_i e;subst e;simp
      .rename_i e;simp;omega,hk,kb⟩)
    rcases uC h4 h5 with ⟨hw,h4⟩|⟨hw,h4⟩
    .rw[if_pos hw];obtain⟨st1,k1,k2⟩:=lp hT h4;exact .inl<|Oper.wp_mono (λa' w' kb =>U k2 kb)<|k1 E a w Q hn h5
    .rw[if_neg<|by simp[hw]];split at h4
     .rename_i hd;exact U h4<|jk (by rw[hn];exact eC hd) h5
     .exact h4.elim
 refine key ops.size _ a _ (by simp) ?_ ?_<|.inl ⟨st,?_,?_,kV⟩
 .refine Nat.le_trans (List.length_filter_le _ _) (by simp)
 .intro j G;simp[bU,Array.getElem?_replicate]at G;split at G<;>simp at G
 .intro j _;simp[bU,Array.getElem?_replicate];split<;>rfl
 .refine⟨λt=> .inr ⟨λj e G=>?_,rfl⟩,λs=> .inr ⟨λj e G=>?_,rfl⟩⟩
  .simp[bU,Array.getElem?_replicate]at G;split at G<;>simp at G
  .simp[bU,Array.getElem?_replicate]at G;split at G<;>simp at G
def Wy(H:bC cx)(I:cx.P.follows .mixedOrders=true){id:Nat}{ops:Array Oper}{E:Env}(J:E.nt=nt){k:St->Prop}(h:QC cx nt ops.toList k st)(K:Sim cx E st a w)
 (G:∀st' j w',k st' ->Sim cx E st' j w' ->Q .normal j w'):(Code.region id ops true).wp cx.P Q a w :=
 wp_mono (Q:=DZ Q) (wp_region_any I<|Tv H J h K G) (λe a w D=>by cases e<;>first|exact D|exact D.elim)
def Qd(P:Nat->Prop):List Nat->Prop
 |[]=>True
 |[i]=>P i
 |i::t=>P i/\Qd P t
def Cb{P:Nat->Prop}:∀{l:List Nat},Qd P l-> ∀i∈l,P i
 |[],_,i,j=>by cases j
 |[x],h,i,j=>by simp at j;subst j;exact h
 |x::y::t,h,i,j=>by
  rcases List.mem_cons.1 j with rfl|j
  .exact h.1
  .exact Cb h.2 i j
def YK(ops:List Oper)(done:List Nat)(i:Nat):Bool :=
 match eI i done with
 |true=>false
 |false=>(match ops[i]? with|some o=>(gL o).all λe=>eI e done|none=>false)
def mD(ops:List Oper)(done:List Nat):List Nat:=(List.range ops.length).filter<|YK ops done
def IK:AV->Option Nat
 | .ptr s _=>some s
 | .dy s _ _ _=>some s
 | .tl s _ _=>some s
 | .own s=>some s
 | .omap s=>some s
 |_=>none
def Yf{v:AV}(h:mE v=some s):IK v=some s:=by
 cases v<;>simp[mE]at h<;>exact congrArg some h
def wE:Op->Option Operand
 | .load _ x=>some x
 | .indexAddr _ x _=>some x
 | .lookup _ x _ _=>some x
 | .call c=>(match c.args.toList with|x::_=>some x|[]=>none)
 |_=>none
def Ea{st':St}{d:Option Nat}{ty:TypeId}{op:Op}{k:KK}(hp:nD op=true)(h1:∀x∈op.operands.toList,st.ev cx x=st'.ev cx x)
 (D:∀x,wE op=some x-> ∀s,IK (st.ev cx x)=some s->find st'.heap s=find st.heap s):opK cx d ty st op k=opK cx d ty st' op k:=by
 have H:nK op=false->opK cx d ty st op k=opK cx d ty st' op k:=λU =>
  Hb h1 (λe=>by rw[U]at e;cases e) (λt x e s V=>by subst e;exact D x rfl s<|Yf V)
 cases op<;>first|(exact H rfl)|(cases hp;done)|skip
 case indexAddr t x i =>
  simp only[Op.operands]at h1;simp only[opK];have j:=D x rfl;have I:st.ev cx x=st'.ev cx x:=h1 x (by simp);rw[I]at j ⊢;rw[h1 i<|by simp];generalize st'.ev cx x=v at j;unfold eX;cases v<;>first|rfl|(rename_i y;cases y<;>rfl)|(have G:=j _ rfl;simp only[G])
 case lookup t x i ok =>
  simp only[Op.operands]at h1;simp only[opK];have j:=D x rfl;have I:st.ev cx x=st'.ev cx x:=h1 x (by simp);rw[I]at j ⊢;rw[h1 i<|by simp];generalize st'.ev cx x=v at j;cases v with
  |omap s =>
   have G:=j s rfl;have N:mapOf st (.omap s)=mapOf st' (.omap s):=by simp only[mapOf,G]
   unfold jK;rw[N];cases mapOf st' (.omap s)with
   |some m=>rfl
   |none =>
    dsimp only;generalize st'.ev cx i=key;generalize cx.ty t=T;cases key with
    |d y=>cases y<;>first|rfl|(rcases T with _|⟨_,_,kd,_⟩<;>first|rfl|(cases kd<;>first|rfl|(simp only[G])))
    |_=>rfl
  |d y=>cases y<;>rfl
  |_=>rfl
 case call c =>
  obtain⟨J,args,W⟩:=c;cases J with
  |value f=>cases hp
  |invoke r m=>cases hp
  |builtin b =>
   cases b<;>first|(cases hp;done)|skip
   simp only[opK,xg];have K:∀x∈args.toList,st.ev cx x=st'.ev cx x:=λx I=>h1 x (by simp[Op.operands,Call.operands];simpa using I)
   simp only[wE]at D;generalize args.toList=l at K D;generalize W.toList=tl
   match l,tl with
   |[x],[t] =>
    have j:=D x rfl;have ex:=K x (by simp);rw[ex]at j;simp only[ex];generalize st'.ev cx x=v at j;unfold mS;cases v<;>first|rfl|(rename_i y;cases y<;>rfl)|(have G:=j _ rfl;simp only[G])
   |[],_=>rfl
   |[_],[]=>rfl
   |[_],_::_::_=>rfl
   |_::_::_,_=>rfl
def YV:Op->Bool
 | .select .. =>true
 |_=>false
def AH(ops:List Oper)(D:List<|List Nat)(x:Nat):Bool :=
 match ops[x]? with
 |some H=>(match H.dst with
  |some d=>(List.range ops.length).any λj=>(match ops[j]? with|some G=>eI d (looks ops G)&& !(eI x<|(D[j]?).getD [])|none=>false)
  |none=>false)
 |none=>false
def Ay(ops:List Oper)(D:List<|List Nat)(i:Nat)(o:Oper):Bool :=
 let G:=(D[i]?).getD []
 (gL o).all (λe=>Nat.blt e i)&&G.all (λx=>Nat.blt x i&&(gL o).any (λe=>Nat.beq e x||eI x ((D[e]?).getD [])))&& !(YV o.op) &&
 (List.range ops.length).all λj=>(match ops[j]? with
  |some I=>(match I.dst with
   |some d=>(match eI d (looks ops o)with|true=>eI j G||eI i ((D[j]?).getD [])|false=>true)&&(Nat.beq i j||(match o.dst with|some H => !(Nat.beq d H)|none=>true))
   |none=>true)
  |none=>false)
def xi(ops:List Oper)(j:List<|List Nat):Nat->List Oper->Bool
 |_,[]=>true
 |i,o::t=>Ay ops j i o&&xi ops j (i+1) t
def nW(ops:List Oper):Bool:=xi ops (closure ops []) 0 ops
structure Clean(ops:List Oper)(cl:Nat->List Nat)(lt:Nat->Bool):Prop where
 QD:∀(i:Nat) o,ops[i]? =some o-> ∀e∈gL o,e<i
 least:∀(i:Nat) o,ops[i]? =some o-> ∀x∈cl i,x<i/\ ∃e∈gL o,e=x\/x∈cl e
 sel:∀(i:Nat) o,ops[i]? =some o-> ∀cs b,o.op≠ .select cs b
 look:∀(i:Nat) o,ops[i]? =some o-> ∀(j:Nat) oj d,ops[j]? =some oj->oj.dst=some d->d∈looks ops o->j∈cl i\/(i∈cl j/\lt j=true)
 dst:∀(i:Nat) o,ops[i]? =some o-> ∀(j:Nat) oj d,ops[j]? =some oj->i≠j->oj.dst=some d->o.dst≠some d
def yO{ops:List Oper}{D:List<|List Nat}:∀{l:List Oper} {i:Nat},xi ops D i l=true-> ∀(j:Nat) o,l[j]? =some o->Ay ops D (i+j) o=true
 |[],i,_,j,o,h=>by simp at h
 |x::t,i,hp,j,o,h=>by
  simp only[xi,aK]at hp;cases j with
  |zero=>simp at h;subst h;exact hp.1
  |succ j=>simp at h;have:=yO hp.2 j o h;rwa [show i+1+j=i+(j+1) by omega]at this
variable {ops:List Oper}
def JA(h:nW ops=true):Clean ops (λi=>((closure ops [])[i]?).getD [])<|AH ops<|closure ops []:=by
 have key:∀(i:Nat) o,ops[i]? =some o->Ay ops (closure ops []) i o=true:=λi o D=>by
  have:=yO h i o D;rwa [Nat.zero_add]at this
 refine⟨λi o D e J=>?_,λi o D x Y=>?_,λi o D cs b e=>?_,λi o D j Z d G H V=>?_,λi o D j Z d G N H e=>?_⟩
 all_goals
  have hp:=key i o D;simp only[Ay,aK]at hp;obtain⟨⟨⟨h1,W⟩,T⟩,U⟩:=hp
 .exact Nat.lt_of_succ_le<|bA<|aG.1 h1 e J
 .have:=aG.1 W x Y;simp only[aK,List.any_eq_true,Bool.or_eq_true]at this;obtain⟨a,e,J,X⟩:=this;exact⟨Nat.lt_of_succ_le<|bA a,e,J,X.imp bg dN.1⟩
 .rw[e]at T;simp[YV]at T
 .have:=aG.1 U j<|List.mem_range.2 (aA.1 G).1;simp only[G,H,dN.2 V,aK,Bool.or_eq_true]at this;by_cases I:eI j (((closure ops [])[i]?).getD [])=true
  .exact .inl<|dN.1 I
  .refine .inr ⟨dN.1<|this.1.resolve_left I,?_⟩;unfold AH;rw[G];simp only[H,List.any_eq_true,List.mem_range];exact⟨i,(aA.1 D).1,by rw[D];simp only[dN.2 V,gq];simpa using I⟩
 .have:=aG.1 U j<|List.mem_range.2 (aA.1 G).1;have K:Nat.beq i j=false:=by rw[<- Bool.not_eq_true];exact λe=>N<|bg e
  simp only[G,H,e,K,aK]at this;simp at this
def kE(ops:List Oper):List Nat->Option Nat
 |[]=>none
 |i::t=>(match ops[i]? with|some o=>(match nD o.op with|true=>(match AH ops (closure ops []) i with|false=>some i|true=>kE ops t)|false=>kE ops t)|none=>kE ops t)
def viewAt(cx:Cx)(ops:List Oper)(st:St)(x:Nat):List AV×Option Blk :=
 match ops[x]? with
 |some o=>((looks ops o++o.dst.toList).map st.get,(match wE o.op with|some y=>(match IK (st.ev cx y)with|some s=>find st.heap s|none=>none)|none=>none))
 |none=>([],none)
def AZ(cx:Cx)(ops:List Oper)(st j:St):List Nat->Prop->Prop
 |[],K=>K
 |x::t,K=>viewAt cx ops j x=viewAt cx ops st x/\AZ cx ops st j t K
def CL{cx:Cx}{ops:List Oper}{st D:St}{K:Prop}:∀{l:List Nat},AZ cx ops st D l K->K/\ ∀x∈l,viewAt cx ops D x=viewAt cx ops st x
 |[],h=>⟨h,λx j=>by cases j⟩
 |y::t,h=>by
  obtain⟨h1,G⟩:=CL (l:=t) h.2;refine⟨h1,λx j=>?_⟩;rcases List.mem_cons.1 j with rfl|j
  .exact h.1
  .exact G x j
def IL(cx:Cx)(nt:Nat)(o:Oper)(st:St)(k:St->Prop):Prop :=
 match ed nt o.dst with
 |true=>opK cx o.dst o.type st o.op λv bs=>(match bs with|[]=>k<|st.put o.dst v []|_::_=>False)
 |false=>False
def wJ(ops:List Oper)(i:Nat)(j:List Nat):List Nat:=j.filter λx=> !(eI x<|((closure ops [])[i]?).getD [])
def mu(cx:Cx)(nt:Nat)(ops:List Oper)(k:St->Prop):Nat->List Nat->List Nat->St->Prop
 |0,_,_,_=>False
 |f+1,done,j,st=>(match kE ops (mD ops done)with
  |some i=>(match ops[i]? with
   |some o=>lA ops st o (IL cx nt o st λst' =>mu cx nt ops k f (i::done) (i::j) st') (match ed nt o.dst with|true=>mu cx nt ops k f (i::done) (i::j)<|st.put o.dst (.tuple []) []|false=>False)
   |none=>False)
  |none=>(match mD ops done with
   |[]=>k st
   |i::t=>Qd (λi=>(match ops[i]? with
    |some o=>lA ops st o (mZ cx nt false o st λst' =>AZ cx ops st st' (wJ ops i j)<|mu cx nt ops k f (i::done) j st') (match ed nt o.dst with|true=>mu cx nt ops k f (i::done) j<|st.put o.dst (.tuple []) []|false=>False)
    |none=>False))<|i::t))
def Agr(D:Nat->Prop)(p a:Act):Prop:=p.defers=a.defers/\p.tmps.size=a.tmps.size/\ ∀t,¬D t->p.tmps.getD t Go.undef=a.tmps.getD t Go.undef
variable {D:Nat->Prop}{p:Act}
def Agr.mono{j:Nat->Prop}(h:Agr D p a)(G:∀t,D t->j t):Agr j p a:=⟨h.1,h.2.1,λt H=>h.2.2 t λe=>H<|G t e⟩
def Cr(a:Act)(d t:Nat)(u:Value):(a.put (some d) u).tmps.getD t Go.undef=if d=t/\d<a.tmps.size then u else a.tmps.getD t Go.undef:=by
 simp only[Act.put,bU];by_cases h:d=t
 .subst h;by_cases j:d<a.tmps.size
  .simp[j]
  .simp[j]
 .rw[Array.getElem?_setIfInBounds_ne h,if_neg λe=>h e.1]
def Agr.put(h:Agr D p a)(d:Option Nat)(u:Value):Agr (λt=>D t/\d≠some t) (p.put d u)<|a.put d u:=by
 refine⟨by cases d<;>exact h.1,by cases d<;>simp[Act.put,h.2.1],λt I=>?_⟩;cases d with
 |none=>exact h.2.2 t λe=>I ⟨e,by simp⟩
 |some d =>
  rw[Cr,Cr,h.2.1];by_cases e:d=t/\d<a.tmps.size
  .rw[if_pos e,if_pos e]
  .rw[if_neg e,if_neg e];by_cases j:d=t
   .subst j;have G:¬d<a.tmps.size:=λG=>e ⟨rfl,G⟩
    have H :¬d<p.tmps.size:=by rw[h.2.1];exact G
    simp[G,H]
   .exact h.2.2 t λJ =>I ⟨J,λe=>j<|by simpa using e⟩
def Agr.XR(h:Agr D p a)(d:Option Nat)(u:Value):Agr (λt=>D t\/d=some t) (p.put d u) a:=by
 refine⟨by cases d<;>exact h.1,by cases d<;>simp[Act.put,h.2.1],λt j=>?_⟩;cases d with
 |none=>exact h.2.2 t λe=>j<|.inl e
 |some d =>
  rw[Cr,if_neg λe=>j<|.inr<|by rw[e.1]];exact h.2.2 t λe=>j<|.inl e
def Agr.eval(h:Agr D p a)(j:∀t,x= .tmp t-> ¬D t):p.eval x=a.eval x:=by
 cases x with
 |tmp t=>exact h.2.2 t<|j t rfl
 |_=>rfl
def Agr.eq(h:Agr D p a)(I:∀t,¬D t):p=a:=by
 obtain⟨N,U⟩:=p;obtain⟨K,T⟩:=a;obtain⟨h1,G,H⟩:=h;simp only at h1 G H;have:N=K:=by
  apply Array.ext G;intro i J j;have:=H i<|I i;simpa [J,j] using this
 rw[h1,this]
def xG{t:Nat}(h:Operand.tmp t∈o.op.operands.toList):t∈looks ops o :=
 List.mem_append.2 (.inl<|List.mem_filterMap.2 ⟨.tmp t,h,rfl⟩)
def Agr.exec(h:Agr D p a)(j:∀cs b,o.op≠ .select cs b)(G:∀t∈looks ops o,¬D t):execOp p.eval o=execOp a.eval o :=
 execOp_congr o j λx H=>h.eval λt e=>G t (xG<|by subst e;simpa using H)
def Agr.wanted(h:Agr D p a){ops:Array Oper}(W:∀t∈looks ops.toList o,¬D t):Region.wanted o (yielded ops p.tmps)=Region.wanted o (yielded ops a.tmps):=by
 unfold Region.wanted;cases V:o.guard with
 |none=>rfl
 |some T =>
  obtain⟨g,want⟩:=T;have:yielded ops p.tmps g=yielded ops a.tmps g:=by
   unfold yielded;cases H:ops[g]? with
   |none=>rfl
   |some N =>
    cases I:N.dst with
    |none=>simp[H,I]
    |some d =>
     have X:d∈looks ops.toList o:=by
      unfold looks;rw[V];have:ops.toList[g]? =some N:=by rw[bE];exact H
      simp[this,I]
     have U:=h.2.2 d<|W d X;have K:p.tmps.size=a.tmps.size:=h.2.1;have J:p.tmps[d]? =a.tmps[d]? :=by
      by_cases j:d<a.tmps.size
      .have G :d<p.tmps.size:=by rw[K];exact j
       rw[Array.getElem?_eq_getElem j,Array.getElem?_eq_getElem G];simpa [j,G] using U
      .rw[Array.getElem?_eq_none<|show p.tmps.size<=d by rw[K];exact Nat.le_of_not_lt j,Array.getElem?_eq_none<|Nat.le_of_not_lt j]
     simp[H,I,J]
  simp only[this]
def abU{P:Program}(h:Agr D p a)(H:∀cs b,o.op≠ .select cs b)(T:∀t∈looks ops o,¬D t)
 (j:o.wp P p w K λ_ _ _=>False):o.wp P a w (λJ w' => ∃p',K p' w' /\Agr (λt=>D t/\o.dst≠some t) p' J) Q:=by
 unfold Oper.wp at j ⊢;rw[h.exec H T]at j;generalize (execOp a.eval o).run P w=r at j ⊢;cases r with
 |ok n w' =>
  cases n<;>simp only[Oper.upon]at j ⊢
  case value u=>exact⟨_,j,h.put _ _⟩
  case skip=>exact⟨_,j,h.put _ _⟩
  case defer d =>
   refine⟨_,j,?_⟩;have:Agr D {p with defers:=d::p.defers} {a with defers:=d::a.defers}:=⟨by simp[h.1],h.2.1,h.2.2⟩
   exact this.put _ _
  case enter f args =>
   refine Calls.mono j λe I G=>?_
   cases e with
   |returned u=>exact⟨_,G,h.put _ _⟩
   |panicked c=>exact G.elim
   |outgrown=>obtain⟨_,_,N⟩:=G;exact N.elim
  case row row args=>exact Rows.mono j λu I G=>⟨_,G,h.put _ _⟩
 |halt x w' =>
  cases x<;>simp only[Oper.upon]at j ⊢
def tK(cx:Cx)(nt:Nat)(ops:List Oper)(st:St)(x:Nat):Prop :=
 ∃o v,ops[x]? =some o/\nD o.op=true/\ed nt o.dst=true/\(∀d,o.dst=some d->st.get d=v) /\
  ((ie ops st o true/\opK cx o.dst o.type st o.op (nf v []))\/(ie ops st o false/\v= .tuple []))
variable {st1:St}
def rE{b:Bool}(H:∀t∈looks ops o,st1.get t=st.get t)(h:ie ops st o b):ie ops st1 o b:=by
 unfold ie at h ⊢;split
 .rename_i j;rw[j]at h;exact h
 .rename_i g want j;rw[j]at h;obtain⟨J,d,h1,D,G⟩:=h;have I:d∈looks ops o:=by unfold looks;rw[j];simp[h1,D]
  exact⟨J,d,h1,D,by rw[H d I];exact G⟩
def tK.mono{x:Nat}(h:tK cx nt ops st x)(D:∀o,ops[x]? =some o-> ∀t,t∈looks ops o\/o.dst=some t->st1.get t=st.get t)
 (N:∀o,ops[x]? =some o-> ∀y,wE o.op=some y-> ∀s,IK (st.ev cx y)=some s->find st1.heap s=find st.heap s):tK cx nt ops st1 x:=by
 obtain⟨o,v,j,hp,K,U,G⟩:=h;refine⟨o,v,j,hp,K,λd e=>(D o j d<|.inr e).trans<|U d e,?_⟩;rcases G with ⟨I,V⟩|⟨I,e⟩
 .refine .inl ⟨rE (λt H=>D o j t<|.inl H) I,?_⟩
  rwa [<- Ea (st:=st) hp (λy J=>?_) λy J s T=>N o j y J s T]
  cases y with
  |tmp t=>exact(D o j t<|.inl<|xG J).symm
  |_=>rfl
 .exact .inr ⟨rE (λt H=>D o j t<|.inl H) I,e⟩
def Xr{op:Op}{y:Operand}(h:wE op=some y):y∈op.operands.toList:=by
 cases op<;>simp[wE]at h
 case call c =>
  split at h
  .rename_i x t j;cases h;simp only[Op.operands,Call.operands,Array.toList_append,List.mem_append];right;rw[j];simp
  .cases h
 all_goals (subst h;simp[Op.operands])
def HQ{x:Nat}(h:tK cx nt ops st x)(D:viewAt cx ops st1 x=viewAt cx ops st x):tK cx nt ops st1 x:=by
 have J:∀o,ops[x]? =some o-> ∀t,t∈looks ops o\/o.dst=some t->st1.get t=st.get t:=λo G t T=>by
  unfold viewAt at D;rw[G]at D;have h1:=congrArg Prod.fst D;simp only at h1;have N:t∈looks ops o++o.dst.toList:=List.mem_append.2 (T.imp id λe=>by rw[e];simp);exact(List.map_inj_left.1 h1) t N
 refine h.mono J λo G y K s j=>?_
 have H:st1.ev cx y=st.ev cx y:=by
  cases y with
  |tmp t=>exact J o G t<|.inl<|xG<|Xr K
  |_=>rfl
 unfold viewAt at D;rw[G]at D;have I:=congrArg Prod.snd D;simp only[K,H,j]at I;exact I
def lJ{ops:List Oper}:∀{l:List Nat} {i:Nat},kE ops l=some i->i∈l/\(∃o,ops[i]? =some o/\nD o.op=true)/\AH ops (closure ops []) i=false
 |[],i,h=>by cases h
 |j::t,i,h=>by
  simp only[kE]at h;split at h
  .rename_i o G;split at h
   .rename_i hp;split at h
    .rename_i H;cases h;exact⟨by simp,⟨o,G,hp⟩,H⟩
    .obtain⟨h1,D⟩:=lJ h;exact⟨by simp[h1],D⟩
   .obtain⟨h1,D⟩:=lJ h;exact⟨by simp[h1],D⟩
  .obtain⟨h1,D⟩:=lJ h;exact⟨by simp[h1],D⟩
def kR{done:List Nat}{i:Nat}:i∈mD ops done ↔ ∃o,ops[i]? =some o/\i ∉ done/\ ∀e∈gL o,e∈done:=by
 unfold mD YK;simp only[List.mem_filter,List.mem_range];constructor
 .rintro⟨I,h⟩;split at h
  .cases h
  .rename_i j;split at h
   .rename_i o D;exact⟨o,D,λe=>(by rw[dN.2 e]at j;cases j),λe G=>dN.1<|aG.1 h e G⟩
   .cases h
 .rintro⟨o,D,J,H⟩;have j:eI i done=false:=by rw[<- Bool.not_eq_true];exact λe=>J<|dN.1 e
  refine⟨(aA.1 D).1,?_⟩;rw[j,D];exact aG.2 λe G=>dN.2<|H e G
structure Inv(cx:Cx)(nt:Nat)(ops:Array Oper)(cl:Nat->List Nat)(lt:Nat->Bool)(E:Env)(listed:Nat->Bool)(done kg:List Nat)(st:St)(a:Act)(w:World):Prop where
 sub:∀j,listed j=true->j∈done
 act:∃p,Sim cx E st p w/\Agr (λt=> ∃x o,x∈done/\listed x=false/\ops.toList[x]? =some o/\o.dst=some t) p a
 re:∀x∈done,listed x=false->(x∈kg/\lt x=false)/\tK cx nt ops.toList st x
 mW:∀j∈done,∀x∈cl j,x∈done
 AA:∀j,listed j=true-> ∀x∈cl j,listed x=true
section
variable {cx:Cx} {nt:Nat} {ops:Array Oper} {cl:Nat->List Nat} {lt:Nat->Bool} {E:Env} {listed:Nat->Bool} {done kg:List Nat} {st:St} {a:Act} {w:World}
def tw(I:Clean ops.toList cl lt){S:Nat->Prop}(J:∀j,S j-> ∀x∈cl j,S x){i:Nat}{o:Oper}(K:ops.toList[i]? =some o)(G:∀e∈gL o,S e):∀x∈cl i,S x:=λx N=>by
 obtain⟨_,e,H,D⟩:=I.least i o K x N;rcases D with rfl|D
 .exact G e H
 .exact J e (G e H) x D
def Inv.Pq(I:Clean ops.toList cl lt)(h:Inv cx nt ops cl lt E listed done kg st a w){i:Nat}{o:Oper}(K:ops.toList[i]? =some o)(j:∀x∈cl i,listed x=true) :
 ∀t∈looks ops.toList o,¬ ∃x o,x∈done/\listed x=false/\ops.toList[x]? =some o/\o.dst=some t:=by
 rintro t N ⟨x,T,G,H,D,J⟩;rcases I.look i o K x T t D J N with hl|⟨_,hl⟩
 .have:=j x hl;rw[H]at this;cases this
 .have:=(h.re x G H).1.2;rw[this]at hl;cases hl
def xX(J:Clean ops.toList cl lt)(U:∀j∈done,∀x∈cl j,x∈done){i:Nat}{o:Oper}(N:ops.toList[i]? =some o)(K:i ∉ done){v:AV}{x:Nat}(T:x∈done)(G:lt i=false\/x ∉ cl i)(h:tK cx nt ops.toList st x):tK cx nt ops.toList (st.put o.dst v []) x:=by
 refine h.mono (λI D t H=>?_) λI D y W s V=>rfl;rw[St.gY,if_neg];intro e;rcases H with H|H
 .rcases J.look x I D i o t N e H with hk|⟨hk,hk2⟩
  .exact K<|U x T i hk
  .rcases G with G|G
   .rw[G]at hk2;cases hk2
   .exact G hk
 .exact J.dst x I D i o t N (λe=>K<|e ▸ T) e H
def He(I:Clean ops.toList cl lt){i:Nat}{o:Oper}(j:ops.toList[i]? =some o)(hp:nD o.op=true)(K:ed nt o.dst=true){v:AV}
 (G:(ie ops.toList st o true/\opK cx o.dst o.type st o.op (nf v []))\/(ie ops.toList st o false/\v= .tuple [])):tK cx nt ops.toList (st.put o.dst v []) i:=by
 have D:∀t∈looks ops.toList o,(st.put o.dst v []).get t=st.get t:=λt N=>by
  rw[St.gY,if_neg];intro e;have:=(I.least i o j i ((I.look i o j i o t j e N).elim id λh=>h.1)).1;omega
 refine⟨o,v,j,hp,K,λd e=>by rw[St.gY,if_pos e],?_⟩;rcases G with ⟨H,T⟩|⟨H,e⟩
 .refine .inl ⟨rE D H,?_⟩
  rwa [<- Ea (st:=st) (st' :=st.put o.dst v []) hp (λy J=>?_) λy J s U=>rfl]
  cases y with
  |tmp t=>exact(D t<|xG J).symm
  |_=>rfl
 .exact .inr ⟨rE D H,e⟩
end
def Vs{cx:Cx}{nt:Nat}(hT:bC cx){ops:Array Oper}{E:Env}(hn:E.nt=nt){Q:Exit->Act->World->Prop}{k:St->Prop}{st:St}{a:Act}{w:World}(hW:nW ops.toList=true)
 (h:mu cx nt ops.toList k (ops.size+1) [] [] st) (hs:Sim cx E st a w) (hQ:∀st' a' w',k st' ->Sim cx E st' a' w' ->Q .normal a' w'):wpAny cx.P .any ops Q ops.size (Array.replicate ops.size false) a {w with drawn:=w.drawn+1}:=by
 have kV:Sim cx E st a {w with drawn:=w.drawn+1}:=by
  obtain⟨σ,hs⟩:=hs;have hk:bx w {w with drawn:=w.drawn+1} (Own E.O (live st.heap) σ) (Own E.O (live st.heap) σ):=⟨Nat.le_refl _,λ_ _ _=>rfl,λ_ h _=>h⟩
  have hJ:∀s,live st.heap s->live st.heap s/\σ s=σ s:=λs h=>⟨h,rfl⟩
  exact⟨σ,⟨hs.frame.os,hs.frame.tape,hs.frame.output,hs.frame.size,hs.frame.block⟩,hs.new,hs.apart,hs.defers,hs.nt,λt=>(hs.aY t).mono hk hJ,
   ⟨λs b hb=>du.mono hk hJ (aH.2 ⟨b,hb⟩) (λ_ _=>rfl)<|hs.holds.blk s b hb,hs.holds.inj⟩,hs.gR,hs.ee,hs.fix⟩
 have hc:=JA hW;generalize kF:(λi:Nat=>((closure ops.toList [])[i]?).getD [])=cl at hc;generalize kJ:AH ops.toList (closure ops.toList [])=lt at hc;have Z:∀{o:Oper},ed nt o.dst=true-> ∀e,o.dst=some e->e<E.nt:=λh=>by rw[hn];exact eC h
 have prog:∀(D:Array Bool),D.size=ops.size->Region.ready .any ops D=[]-> ∀j,j<ops.size->D.getD j false=true:=by
  intro D kc hr j;induction j using Nat.strongRecOn with
  |_ j ih =>
   intro H;cases hlj:D.getD j false with
   |true=>rfl
   |false =>
    have N:ops.toList[j]? =some ops[j]:=by rw[bE];exact Array.getElem?_eq_getElem H
    have:j∈Region.ready .any ops D:=(jF kc).2 ⟨ops[j],N,hlj,λe he=>by
     have:=hc.QD j _ N e he;exact ih e this<|by omega⟩
    rw[hr]at this;cases this
 have key : ∀ (T : Nat) (D : Array Bool), D.size = ops.size -> ((List.range ops.size).filter fun j => !D.getD j false).length <= T -> ∀ (f : Nat) (done J : List Nat) (st : St) (a : Act) (w : World), mu cx nt ops.toList k f done J st ->
     Inv cx nt ops cl lt E (λj=>D.getD j false) done J st a w->wpAny cx.P .any ops Q T D a w:=by
  intro T;induction T with
  |zero =>
   intro D kc hY;have X:∀j,j<ops.size->D.getD j false=true:=λj H=>by
    cases h:D.getD j false with
    |true=>rfl
    |false =>
     have:j∈(List.range ops.size).filter λj=> !D.getD j false:=List.mem_filter.2 ⟨List.mem_range.2 H,by simp[h]⟩
     have:=List.length_pos_of_mem this;omega
   intro f;cases f with
   |zero=>intro done J st a w h _;exact h.elim
   |succ f =>
    intro done J st a w h K;refine⟨?_,?_⟩
    .rw[List.eq_nil_iff_forall_not_mem];intro i K;obtain⟨o,N,h1,_⟩:=(jF kc).1 K;have:i<ops.size:=by have:=(aA.1 N).1;simpa using this
     rw[X i this]at h1;cases h1
    .have hF:mD ops.toList done=[]:=by
      rw[List.eq_nil_iff_forall_not_mem];intro i hZ;obtain⟨o,N,h1,_⟩:=kR.1 hZ;exact h1<|K.sub i (X i<|by have:=(aA.1 N).1;simpa using this)
     simp only[mu,hF,kE]at h;obtain⟨p,hp,V⟩:=K.act;have kQ:p=a:=V.eq λt ⟨x,o,_,I,N,_⟩=>by
      have:=X x (by have:=(aA.1 N).1;simpa using this);rw[this]at I;cases I
     exact hQ st a w h<|kQ ▸ hp
  |succ T ih =>
   intro D kc hY f;induction f with
   |zero=>intro done J st a w h _;exact h.elim
   |succ f xM =>
    intro done J st a w h K;rw[mu]at h;split at h
    . -- gone over at once
      rename_i i xq;obtain⟨hZ,⟨o,N,hp⟩,kK⟩:=lJ xq;rw[kJ]at kK;obtain⟨o',kh,xe,kC⟩:=kR.1 hZ;rw[N]at kh;cases kh;rw[N]at h;dsimp only at h;have xz:D.getD i false=false:=by
       cases hl:D.getD i false with
       |false=>rfl
       |true=>exact absurd (K.sub i hl) xe
      obtain⟨p,W,V⟩:=K.act
      have next : ∀ {v : AV} {z : Value}, ed nt o.dst = true -> Sim cx E (st.put o.dst v []) (p.put o.dst z) w -> ((ie ops.toList st o true /\ opK cx o.dst o.type st o.op (nf v [])) \/ (ie ops.toList st o false /\ v = .tuple [])) ->
          mu cx nt ops.toList k f (i::done) (i::J) (st.put o.dst v [])->wpAny cx.P .any ops Q (T+1) D a w:=by
       intro v z hd hI kN hk;refine xM _ _ _ _ _ hk ⟨λj H=>aZ _<|K.sub j H,⟨_,hI,?_⟩,λx I G=>?_,λj H x I=>?_,K.AA⟩
       .refine(V.XR o.dst z).mono λt ht=>?_
        rcases ht with ⟨x,ox,h1,h2,h3,h4⟩|e
        .exact⟨x,ox,aZ _ h1,h2,h3,h4⟩
        .exact⟨i,o,List.mem_cons_self .., xz,N,e⟩
       .rcases List.mem_cons.1 I with rfl|I
        .exact⟨⟨List.mem_cons_self .., kK⟩,He hc N hp hd kN⟩
        .exact⟨⟨aZ _ (K.re x I G).1.1,(K.re x I G).1.2⟩,xX hc K.mW N xe I (.inl kK) (K.re x I G).2⟩
       .rcases List.mem_cons.1 H with rfl|H
        .exact aZ _ (tw hc (S:=(· ∈done)) K.mW N kC x I)
        .exact aZ _<|K.mW j H x I
      rcases oT h with ⟨hw,h⟩|⟨hw,h⟩
      .unfold IL at h;split at h
       .rename_i hd;obtain⟨v,bs,hk,_,H⟩:=FT h;split at hk
        .obtain⟨v',xm,ks,rfl,rfl⟩:=uo hT H;obtain⟨_,ke⟩:=ks.2 hp;obtain⟨σ,hJ⟩:=W;obtain⟨z,_,kU⟩:=ke E st σ p w (St.le.refl _) hJ;exact next hd ⟨σ,hJ.put (Z hd) kU⟩ (.inl ⟨hw,H⟩) hk
        .exact hk.elim
       .exact h.elim
      .split at h
       .rename_i hd;exact next hd (jk (Z hd) W) (.inr ⟨hw,rfl⟩) h
       .exact h.elim
    .rename_i kq;refine⟨λhr=>?_,λi hZ=>?_⟩
     .have X:=prog D kc hr;have hF:mD ops.toList done=[]:=by
       rw[List.eq_nil_iff_forall_not_mem];intro i hZ;obtain⟨o,N,h1,_⟩:=kR.1 hZ;exact h1<|K.sub i (X i<|by have:=(aA.1 N).1;simpa using this)
      rw[hF]at h;obtain⟨p,hp,V⟩:=K.act;have kQ:p=a:=V.eq λt ⟨x,o,_,I,N,_⟩=>by
       have:=X x (by have:=(aA.1 N).1;simpa using this);rw[this]at I;cases I
      exact hQ st a w h<|kQ ▸ hp
     .obtain⟨o,N,hB,ha⟩:=(jF kc).1 hZ;have kD:i<ops.size:=by have:=(aA.1 N).1;simpa using this
      have kh :ops[i]? =some o:=by rw[<- bE];exact N
      have hA:∀x∈cl i,D.getD x false=true:=tw hc (S:=λx=>D.getD x false=true) K.AA N ha;have U:∀j,(D.setIfInBounds i true).getD j false=if j=i then true else D.getD j false:=λj=>by
       simp only[bU];by_cases e:j=i
       .subst e;simp[show j<D.size by omega]
       .rw[if_neg e,Array.getElem?_setIfInBounds_ne λh=>e h.symm]
      have hK :(D.setIfInBounds i true).size=ops.size:=by simp[kc]
      have hf :((List.range ops.size).filter λj=> !(D.setIfInBounds i true).getD j false).length<=T:=by
       have:=Dk (p:=λj=> !D.getD j false) (p' :=λj=> !(D.setIfInBounds i true).getD j false) (λj H=>by
        rw[U]at H;split at H
        .simp at H
        .exact H) (i:=i) (by simp only[hB];rfl) (by rw[U];simp)<|List.mem_range.2 kD
       omega
      have kI:=K.Pq hc N hA;have kx:=hc.sel i o N;have hE:∀j,(D.setIfInBounds i true).getD j false=true-> ∀x∈cl j,(D.setIfInBounds i true).getD x false=true:=λj H x I=>by
       rw[U];split
       .rfl
       .rw[U]at H;split at H
        .rename_i e;subst e;exact hA x I
        .exact K.AA j H x I
      have hD : ∀ (dn : List Nat), (∀ x ∈ done, x ∈ dn) -> ∀ t, (∃ x o, x ∈ done /\ D.getD x false = false /\ ops.toList[x]? = some o /\ o.dst = some t) /\ o.dst ≠ some t ->
          ∃x o,x∈dn/\(D.setIfInBounds i true).getD x false=false/\ops.toList[x]? =some o/\o.dst=some t:=by
       rintro dn xp t ⟨⟨x,ox,h1,h2,h3,h4⟩,hM⟩;refine⟨x,ox,xp x h1,?_,h3,h4⟩;rw[U,if_neg]
       .exact h2
       .intro e;subst e;rw[N]at h3;cases h3;exact hM h4
      obtain⟨p,W,V⟩:=K.act;have Y:=V.wanted kI;unfold wpOp;rw[kh];dsimp only;by_cases hid:i∈done
      . -- it was gone over
        obtain⟨_,o2,v,xh,hp,hd,hv,kN⟩:=K.re i hid hB;rw[N]at xh;cases xh;have fin:∀{z:Value},Sim cx E (st.put o.dst v []) (p.put o.dst z) w->wpAny cx.P .any ops Q T (D.setIfInBounds i true) (a.put o.dst z) w:=by
         intro z hI;have kG:Sim cx E st (p.put o.dst z) w:=hI.ext (λt=>by
          rw[St.gY];split
          .rename_i e;exact hv t e
          .rfl) λs=>rfl
         refine ih _ hK hf (f+1) done J st _ w (by rw[mu,kq];exact h) ⟨λj H=>?_,⟨_,kG,(V.put o.dst z).mono (hD done λx I=>I)⟩,λx I G=>?_,K.mW,hE⟩
         .rw[U]at H;split at H
          .rename_i e;subst e;exact hid
          .exact K.sub j H
         .rw[U]at G;split at G
          .cases G
          .exact K.re x I G
        rcases kN with ⟨hw,hk⟩|⟨hw,e⟩
        .have kf:=iB hw (λd _=>rfl) W;rw[<- Y,kf,if_pos rfl];obtain⟨v',xm,ks,rfl,rfl⟩:=uo hT hk;obtain⟨_,ke⟩:=ks.2 hp;obtain⟨σ,hJ⟩:=W;obtain⟨z,hz,kU⟩:=ke E st σ p w (St.le.refl _) hJ;rw[V.exec kx kI]at hz;refine .inl ?_;simp only[Oper.wp,hz,Oper.upon];exact fin ⟨σ,hJ.put (Z hd) kU⟩
        .have kf:=iB hw (λd _=>rfl) W;rw[<- Y,kf];simp only[eV,if_false];subst e;exact fin (jk (Z hd) W)
      . -- it comes up
        have kC:∀e∈gL o,e∈done:=λe he=>K.sub e<|ha e he
        have hN:i∈mD ops.toList done:=kR.2 ⟨o,N,hid,kC⟩;have kz:lA ops.toList st o (mZ cx nt false o st λst' =>AZ cx ops.toList st st' (wJ ops.toList i J)<|mu cx nt ops.toList k f (i::done) J st') (match ed nt o.dst with|true=>mu cx nt ops.toList k f (i::done) J<|st.put o.dst (.tuple []) []|false=>False):=by
         split at h
         .rename_i hF;rw[hF]at hN;cases hN
         .rename_i x t I;rw[I]at hN;have:=Cb h i hN;rw[N]at this;exact this
        have fin : ∀ {st1 : St} {p' a' : Act} {w' : World}, mu cx nt ops.toList k f (i :: done) J st1 -> Sim cx E st1 p' w' -> Agr (fun t => (∃ x o, x ∈ done /\ D.getD x false = false /\ ops.toList[x]? = some o /\ o.dst = some t) /\ o.dst ≠ some t) p' a' ->
            (∀x∈done,D.getD x false=false->(x∈J/\lt x=false)/\tK cx nt ops.toList st1 x)->wpAny cx.P .any ops Q T (D.setIfInBounds i true) a' w' :=by
         intro st1 p' a' w' hk hI hV kT;refine ih _ hK hf f _ _ _ _ _ hk ⟨λj H=>?_,⟨_,hI,hV.mono (hD (i::done) λx I=>aZ _ I)⟩,λx I G=>?_,λj H x I=>?_,hE⟩
         .rw[U]at H;split at H
          .rename_i e;subst e;exact List.mem_cons_self ..
          .exact aZ _<|K.sub j H
         .rw[U]at G;split at G
          .cases G
          .rename_i hM;rcases List.mem_cons.1 I with e|I
           .exact absurd e hM
           .exact kT x I G
         .rcases List.mem_cons.1 H with rfl|H
          .exact aZ _ (tw hc (S:=(· ∈done)) K.mW N kC x I)
          .exact aZ _<|K.mW j H x I
        rcases oT kz with ⟨hw,hy⟩|⟨hw,hy⟩
        .have kf:=iB hw (λd _=>rfl) W;rw[<- Y,kf,if_pos rfl];obtain⟨st1,k1,k2⟩:=lp hT hy;obtain⟨k2,xE⟩:=CL k2;refine .inl<|Oper.wp_mono (λa' w' =>?_)<|abU V kx kI<|k1 E p w (λ_ _ _=>False) hn W;rintro⟨p',kW,hV⟩;refine fin k2 kW hV λx I G=>?_
         obtain⟨xj,kT⟩:=K.re x I G;refine⟨xj,HQ kT<|xE x ?_⟩;unfold wJ;refine List.mem_filter.2 ⟨xj.1,?_⟩;have xf:¬x∈cl i:=λhm=>by rw[hA x hm]at G;cases G
         rw[<- kF]at xf;simp only[Bool.not_eq_true', <- Bool.not_eq_true];exact λe=>xf<|dN.1 e
        .have kf:=iB hw (λd _=>rfl) W;rw[<- Y,kf];simp only[eV,if_false];split at hy
         .rename_i hd;exact fin hy (jk (Z hd) W) (V.put o.dst Go.undef) λx I G=>⟨(K.re x I G).1,xX hc K.mW N hid I (.inr λhm=>by rw[hA x hm]at G;cases G) (K.re x I G).2⟩
         .exact hy.elim
 refine key ops.size _ (by simp) ?_ (ops.size+1) [] [] st a _ h ⟨λj H=>?_,⟨a,kV,rfl,rfl,λt _=>rfl⟩,λx I=>(by cases I),λj H=>(by cases H),λj H=>?_⟩
 .refine Nat.le_trans (List.length_filter_le _ _) (by simp)
 .simp[bU,Array.getElem?_replicate]at H;split at H<;>simp at H
 .simp[bU,Array.getElem?_replicate]at H;split at H<;>simp at H
def Yy{cx:Cx}{nt:Nat}(H:bC cx)(I:cx.P.follows .mixedOrders=true){id:Nat}{ops:Array Oper}{E:Env}(J:E.nt=nt){Q:Exit->Act->World->Prop}{k:St->Prop}{st:St}{a:Act}{w:World}(j:nW ops.toList=true)
 (h:mu cx nt ops.toList k (ops.size+1) [] [] st) (K:Sim cx E st a w) (G:∀st' D w',k st' ->Sim cx E st' D w' ->Q .normal D w'):(Code.region id ops true).wp cx.P Q a w:=wp_region_any I<|Vs H J j h K G
def cn{a}{c:Prop}(h:c)(h1:nW a=true:=by kernel_rfl):nW a=true/\c:=⟨h1,h⟩
def db{a1 a2 a3 a4 b1 b2 b3 b4}{c:Prop}(h:c)(h1:NQ.viewAt a1 a2 a3 a4=NQ.viewAt b1 b2 b3 b4:=by kernel_rfl):NQ.viewAt a1 a2 a3 a4=NQ.viewAt b1 b2 b3 b4/\c:=⟨h1,h⟩
