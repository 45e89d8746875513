/-
  Merged texts.
-/
import Derived.Test.YtodofogcincleaaGreatDoorQcpM
import Derived.Deep.LoopGhost
import Derived.Tactics
set_option linter.all false
namespace NQ
open Go Go.RowKit
def qH(c:Call):Option (Operand×Operand×TypeId) :=
 match c.callee,c.args.toList,c.argTypes.toList with
 | .builtin .append,[s,x],[t,t']=>(match Nat.beq t t' with|true=>some (s,x,t)|false=>none)
 |_,_,_=>none
def TY(cx:Cx)(st:St)(d:Option Nat)(ty:TypeId)(c:Call)(k:AV->St->Prop):Prop :=
 opK cx d ty (st.bP (tr (cz cx st c.args.toList c.argTypes.toList))) (.call c) λv bs=>(match bs with|[]=>k v (st.bP (tr (cz cx st c.args.toList c.argTypes.toList)))|_=>False)
def PH(cx:Cx)(o:Oper)(st:St)(k:St->Prop):Prop :=
 match o.op with
 | .store t ad v=>GB cx st t (st.ev cx ad) (st.ev cx v) λhp=>k ⟨bF st.aV o.dst (.tuple []),hp⟩
 | .mapUpdate t m key v=>xq cx st t (st.ev cx m) (st.ev cx key) (st.ev cx v) λhp=>k ⟨bF st.aV o.dst (.tuple []),hp⟩
 | .insert t m key v=>xq cx st t (st.ev cx m) (st.ev cx key) (st.ev cx v) λhp=>k ⟨bF st.aV o.dst (.tuple []),hp⟩
 | .call c=>(match qH c with
  |some (s,x,t)=>BB cx st o.dst t (st.ev cx s) (ju cx t (st.ev cx x)) λv sl hp=>k ⟨bF sl o.dst v,hp⟩
  |none=>(match c.callee with
   | .value (.func f)=>(match Nat.beq (cx.chg f) 3 with
    |true=>zJ cx st (st.ev cx (.func f)) (cz cx st c.args.toList c.argTypes.toList) λv st1=>k ⟨bF st1.aV o.dst v,st1.heap⟩
    |false=>(match Nat.beq (cx.chg f) 5 with
     |true=>TY cx st o.dst o.type c λv st1=>k ⟨bF st1.aV o.dst v,st1.heap⟩
     |false=>(match Nat.beq (cx.chg f) 6 with
      |true=>vU cx st (st.ev cx (.func f)) (cz cx st c.args.toList c.argTypes.toList) λv st1=>k ⟨bF st1.aV o.dst v,st1.heap⟩
      |false=>QA cx st o.dst (Nat.beq (cx.chg f) 1) f c.args.toList c.argTypes.toList λv st1=>k ⟨bF st1.aV o.dst v,st1.heap⟩)))
   |_=>False))
 |_=>False
def DP(mt:Nat->Nat):Op->Bool
 | .store .. =>true
 | .mapUpdate .. =>true
 | .insert .. =>true
 | .call c=>(match c.callee with| .builtin .append=>true| .value (.func f)=>(match mt f with|0=>false|4=>false|_=>true)|_=>false)
 |_=>false
def qE(h:List (Nat×Blk)):List (Nat×Blk)->Bool
 |[]=>true
 |(s,_)::t=>(match find h s with|none=>qE h t|some _=>false)
def dq(nt:Nat):Option Nat->Bool
 |some d=>Nat.blt d nt
 |none=>true
def uf:Op->Bool
 | .call c=>(match c.callee with| .builtin _=>false|_=>true)
 |_=>false
def Po(dr:Bool)(op:Op):List (Nat×Blk)->Bool
 |[]=>true
 |_=>(match dr with|true=> !uf op|false=>true)
def jK(cx:Cx)(nt:Nat)(dr:Bool)(o:Oper)(st:St)(k:St->Prop):Prop :=
 match dq nt o.dst,DP cx.chg o.op with
 |true,true=>PH cx o st k
 |true,false=>opK cx o.dst o.type st o.op λv bs=>(match Po dr o.op bs,qE st.heap bs with|true,true=>k (st.put o.dst v bs)|_,_=>False)
 |false,_=>False
def iW(ops:List Oper)(st:St)(o:Oper)(yes no:Prop):Prop :=
 match o.guard with
 |none=>yes
 |some (j,want)=>(match ops[j]? with
  |some oj=>(match oj.dst with
   |some d=>(match st.get d with
    | .d (.bool b)=>(match want with
     |true=>rq b yes no
     |false=>rq b no yes)
    | .tuple []=>no
    |_=>False)
   |none=>False)
  |none=>False)
def pH(cx:Cx)(nt:Nat)(dr:Bool)(ops:List Oper):List Oper->(St->Prop)->St->Prop
 |[],k,st=>k st
 |o::rest,k,st=>iW ops st o (jK cx nt dr o st λst' =>pH cx nt dr ops rest k st') (match dq nt o.dst with|true=>pH cx nt dr ops rest k (st.put o.dst (.tuple []) [])|false=>False)
section
variable {cx:Cx} {st:St} {nt:Nat}
theorem rF{h:List (Nat×Blk)}:∀{bs:List (Nat×Blk)},qE h bs=true-> ∀s,live bs s-> ¬live h s
 |[],_,s,hl=>by simp[live,find]at hl
 |(x,b)::t,hf,s,hl=>by
  simp only[qE]at hf;split at hf
  .rename_i hx;by_cases e:x=s
   .subst e;unfold live;rw[hx];simp
   .exact rF hf s (by unfold live at hl ⊢;rwa [bl _ _ e]at hl)
  .cases hf
theorem dy{d:Option Nat}(h:dq nt d=true):∀e,d=some e->e<nt:=λe he=>by
 subst he;exact Nat.lt_of_lt_of_le (Nat.lt_of_succ_le (bB h)) (Nat.le_refl _)
theorem Su(hT:bD cx){o:Oper}{k:St->Prop}(h:PH cx o st k):∃st1,jh cx o st st1/\k st1:=by
 unfold PH at h;split at h
 .rename_i ho;obtain⟨hp,h1,h2⟩:=Rh hT ho h;exact⟨_,h1,h2⟩
 .rename_i ho;obtain⟨hp,h1,h2⟩:=CO hT (.inl ho) h;exact⟨_,h1,h2⟩
 .rename_i ho;obtain⟨hp,h1,h2⟩:=CO hT (.inr ho) h;exact⟨_,h1,h2⟩
 .rename_i c ho;split at h
  .rename_i s x t hc;have yC :c={callee:= .builtin .append,args:= #[s,x],argTypes:= #[t,t]}:=by
    unfold qH at hc;split at hc
    .rename_i s' x' t1 t2 h1 h2 h3;split at hc
     .rename_i hb;cases hc;obtain rfl:t=t2:=bd hb;obtain⟨cc,ca,ct⟩:=c;simp only at h1 h2 h3;subst h1;have e1:ca= #[s,x]:=by rw[<- Array.toList_inj];exact h2
      have e2:ct= #[t,t]:=by rw[<- Array.toList_inj];exact h3
      rw[e1,e2]
     .cases hc
    .cases hc
   rw[yC]at ho;obtain⟨v,sl,hp,h1,h2⟩:=Mt hT ho h;exact⟨_,h1,h2⟩
  .split at h
   .rename_i f kO;split at h
    .obtain⟨v,st1,h1,h2⟩:=ED ho kO h;exact⟨_,h1,h2⟩
    .split at h
     .unfold TY at h;rw[<- ho]at h;obtain⟨v,bs,h1,h2⟩:=qR hT h;cases bs with
      |nil=>exact⟨_,λE a w Q hd hs=>h1.1 E _ a w Q (St.le.refl _) hd (λs hl=>by simp[live,find]at hl) (hs.bP _),h2⟩
      |cons _ _=>exact h2.elim
     .split at h
      .obtain⟨v,st1,h1,h2⟩:=yU ho kO h;exact⟨_,h1,h2⟩
      .obtain⟨v,st1,h1,h2⟩:=Uj ho kO h;exact⟨_,h1,h2⟩
   .exact h.elim
 .exact h.elim
theorem ib(hT:bD cx){dr:Bool}{o:Oper}{k:St->Prop}(h:jK cx nt dr o st k):∃st1,(∀(E:Env) a w (Q:Exit->Act->World->Prop),E.nt=nt->Sim cx E st a w->o.wp cx.P a w (λa' w' =>Sim cx E st1 a' w') Q)/\k st1:=by
 unfold jK at h;split at h
 .rename_i hd _;obtain⟨st1,h1,h2⟩:=Su hT h;exact⟨st1,λE a w Q hn hs=>h1 E a w Q (by rw[hn];exact dy hd) hs,h2⟩
 .rename_i hd _;obtain⟨v,bs,h1,h2⟩:=qR hT h;split at h2
  .rename_i _ hf;exact⟨_,λE a w Q hn hs=>h1.1 E st a w Q (St.le.refl st) (by rw[hn];exact dy hd) (rF hf) hs,h2⟩
  .exact h2.elim
 .exact h.elim
theorem rn{ops:Array Oper}{tmps:Array Value}{j d:Nat}{oj:Oper}{b:Bool}(hj:ops[j]? =some oj)(hd:oj.dst=some d)(h:tmps.getD d Go.undef= .bool b):yielded ops tmps j=some b:=by
 unfold yielded;simp only[hj,Option.bind_some,hd];cases ht:tmps[d]? with
 |none=>simp[ht,Go.undef]at h
 |some v=>simp[ht]at h;subst h;rfl
theorem wW{ops:Array Oper}{tmps:Array Value}{j d:Nat}{oj:Oper}(hj:ops[j]? =some oj)(hd:oj.dst=some d)(h:tmps.getD d Go.undef= .tuple #[]):yielded ops tmps j=none:=by
 unfold yielded;simp only[hj,Option.bind_some,hd];cases ht:tmps[d]? with
 |none=>rfl
 |some v=>simp[ht]at h;subst h;rfl
theorem nh{ops:Array Oper}{o:Oper}{yes no:Prop}(h:iW ops.toList st o yes no){E:Env}{a:Act}{w:World}(hs:Sim cx E st a w) :
 (Region.wanted o (yielded ops a.tmps)=true/\yes)\/(Region.wanted o (yielded ops a.tmps)=false/\no):=by
 obtain⟨σ,hs⟩:=hs;unfold iW at h;split at h
 .rename_i hg;exact .inl ⟨by simp[Region.wanted,hg],h⟩
 .rename_i j want hg;split at h
  .rename_i oj hj;have kB :ops[j]? =some oj:=by rw[<- bx];exact hj
   split at h
   .rename_i d hd;split at h
    .rename_i b hb;have hr:=hs.aV d;rw[hb]at hr;have hy:=rn kB hd hr.bool;cases want <;> cases b <;> simp only[rq]at h
     .exact .inl ⟨by simp[Region.wanted,hg,hy],h⟩
     .exact .inr ⟨by simp[Region.wanted,hg,hy],h⟩
     .exact .inr ⟨by simp[Region.wanted,hg,hy],h⟩
     .exact .inl ⟨by simp[Region.wanted,hg,hy],h⟩
    .rename_i hb;have hr:=hs.aV d;rw[hb]at hr;have hv:a.tmps.getD d Go.undef= .tuple #[]:=by
      generalize a.tmps.getD d Go.undef=u at hr
      cases hr with|tuple _ vs hl _ =>
       have:vs= #[]:=Array.eq_empty_of_size_eq_zero hl;rw[this]
     have hy:=wW kB hd hv;exact .inr ⟨by simp[Region.wanted,hg,hy],h⟩
    .exact h.elim
   .exact h.elim
  .exact h.elim
theorem gA{E:Env}{a:Act}{w:World}{d:Option Nat}(hd:∀e,d=some e->e<E.nt)(hs:Sim cx E st a w):Sim cx E (st.put d (.tuple []) []) (a.put d Go.undef) w:=by
 obtain⟨σ,hs⟩:=hs;exact⟨σ,hs.put hd (.tuple [] #[] rfl λj c hj=>by simp at hj)⟩
theorem qt(hT:bD cx){dr:Bool}{ops:Array Oper}{E:Env}(hn:E.nt=nt){Q:Exit->Act->World->Prop}:∀(l:List Oper) {k:St->Prop} {st:St} {a:Act} {w:World},pH cx nt dr ops.toList l k st->Sim cx E st a w ->
 (∀st' a' w',k st' ->Sim cx E st' a' w' ->Q .normal a' w')->wpList cx.P ops Q l a w
 |[],k,st,a,w,h,hs,hQ=>hQ st a w h hs
 |o::rest,k,st,a,w,h,hs,hQ=>by
  simp only[pH]at h;unfold wpList;rcases nh h hs with ⟨hw,h⟩|⟨hw,h⟩
  .rw[if_pos hw];obtain⟨st1,h1,h2⟩:=ib hT h;exact .inl (Oper.wp_mono (λa' w' hR =>qt hT hn rest h2 hR hQ) (h1 E a w Q hn hs))
  .rw[if_neg (by simp[hw])];split at h
   .rename_i hd;exact qt hT hn rest h (gA (by rw[hn];exact dy hd) hs) hQ
   .exact h.elim
def Li:AV->Option Nat
 | .own s=>some s
 |_=>none
def GH(st:St)(v:AV):Option Nat :=
 match Li v with
 |some s=>(match find st.heap s with|some (.tail ..)=>some s|_=>none)
 |none=>none
theorem Ge{v:AV}{s:Nat}(h:Li v=some s):v= .own s:=by
 cases v <;> cases h;rfl
theorem OA{v:AV}{s:Nat}(h:GH st v=some s):v= .own s:=by
 unfold GH at h;split at h
 .rename_i s' e;split at h
  .cases h;exact Ge e
  .cases h
 .cases h
theorem Hz{c:Call}{s x:Operand}{t:TypeId}(hc:qH c=some (s,x,t)):c={callee:= .builtin .append,args:= #[s,x],argTypes:= #[t,t]}:=by
 unfold qH at hc;split at hc
 .rename_i s' x' t1 t2 h1 h2 h3;split at hc
  .rename_i hb;cases hc;obtain rfl:t=t2:=bd hb;obtain⟨cc,ca,ct⟩:=c;simp only at h1 h2 h3;subst h1;have e1:ca= #[s,x]:=by rw[<- Array.toList_inj];exact h2
   have e2:ct= #[t,t]:=by rw[<- Array.toList_inj];exact h3
   rw[e1,e2]
  .cases hc
 .cases hc
def Bk(cx:Cx)(nt:Nat)(o:Oper)(st:St)(k:St->Prop):Prop :=
 match o.op with
 | .slice t x (some lo) none none=>(match Li (st.ev cx x),dq nt o.dst with
  |some s,true=>zr cx st t s (st.ev cx lo) λv sl hp=>k ⟨bF sl o.dst v,hp⟩
  |some _,false=>False
  |none,_=>jK cx nt false o st k)
 | .call c=>(match c.callee with
  | .builtin .append=>(match qH c with
   |some (s,x,t)=>(match GH st (st.ev cx s),dq nt o.dst with
    |some site,true=>zq cx st t site (ju cx t (st.ev cx x)) λv sl hp=>k ⟨bF sl o.dst v,hp⟩
    |some _,false=>False
    |none,_=>jK cx nt false o st k)
   |none=>jK cx nt false o st k)
  | .value (.tmp t)=>(match dq nt o.dst with
   |true=>(match callee (st.ev cx (.tmp t))with
    |some (g,_,_)=>(match Nat.beq (cx.chg g) 6 with
     |true=>vU cx st (st.ev cx (.tmp t)) (cz cx st c.args.toList c.argTypes.toList) λv st1=>k ⟨bF st1.aV o.dst v,st1.heap⟩
     |false=>zJ cx st (st.ev cx (.tmp t)) (cz cx st c.args.toList c.argTypes.toList) λv st1=>k ⟨bF st1.aV o.dst v,st1.heap⟩)
    |none=>False)
   |false=>False)
  | .value (.func f)=>(match Nat.beq (cx.chg f) 6 with
   |true=>(match dq nt o.dst with
    |true=>vU cx st (st.ev cx (.func f)) (cz cx st c.args.toList c.argTypes.toList) λv st1=>k ⟨bF st1.aV o.dst v,st1.heap⟩
    |false=>False)
   |false=>jK cx nt false o st k)
  |_=>jK cx nt false o st k)
 |_=>jK cx nt false o st k
theorem Gy(hT:bD cx){o:Oper}{k:St->Prop}(h:Bk cx nt o st k):∃st1,(∀(E:Env) a w (Q:Exit->Act->World->Prop),E.nt=nt->Sim cx E st a w->o.wp cx.P a w (λa' w' =>Sim cx E st1 a' w') Q)/\k st1:=by
 unfold Bk at h;split at h
 .rename_i t x lo ho;split at h
  .rename_i s hs hd;obtain⟨v,sl,hp,h1,h2⟩:=LN hT ho (Ge hs) h;exact⟨_,λE a w Q hn hs=>h1 E a w Q (by rw[hn];exact dy hd) hs,h2⟩
  .exact h.elim
  .exact ib hT h
 .rename_i c ho;split at h
  .split at h
   .rename_i s x t hc;split at h
    .rename_i site hs hd;rw[Hz hc]at ho;obtain⟨v,sl,hp,h1,h2⟩:=LM hT ho (OA hs) h;exact⟨_,λE a w Q hn hs=>h1 E a w Q (by rw[hn];exact dy hd) hs,h2⟩
    .exact h.elim
    .exact ib hT h
   .exact ib hT h
  .rename_i t hc;split at h
   .rename_i hd;split at h
    .split at h
     .obtain⟨v,st1,h1,h2⟩:=yU ho hc h;exact⟨_,λE a w Q hn hs=>h1 E a w Q (by rw[hn];exact dy hd) hs,h2⟩
     .obtain⟨v,st1,h1,h2⟩:=ED ho hc h;exact⟨_,λE a w Q hn hs=>h1 E a w Q (by rw[hn];exact dy hd) hs,h2⟩
    .exact h.elim
   .exact h.elim
  .rename_i f hc;split at h
   .split at h
    .rename_i hd;obtain⟨v,st1,h1,h2⟩:=yU ho hc h;exact⟨_,λE a w Q hn hs=>h1 E a w Q (by rw[hn];exact dy hd) hs,h2⟩
    .exact h.elim
   .exact ib hT h
  .exact ib hT h
 .exact ib hT h
def seqB(cx:Cx)(nt:Nat)(ops:List Oper):List Oper->(St->Prop)->St->Prop
 |[],k,st=>k st
 | o :: rest, k, st => iW ops st o (match Bv cx st o with
     |some (s,left)=>(match dq nt o.dst with
      |true=>(left=[]->seqB cx nt ops rest k ⟨bF st.aV o.dst (.tuple [.d (.bool false)]),st.heap⟩)/\ ∀i kk x,left[i]? =some (kk,x)->seqB cx nt ops rest k ⟨bF st.aV o.dst (Cb kk x),(s,.iter (left.eraseIdx i) (some (kk,x)))::st.heap⟩
      |false=>False)
     |none=>(match xz cx st o with
      |some (d,m)=>(match dq nt o.dst,find st.heap d with
       |true,none=>seqB cx nt ops rest k ⟨bF st.aV o.dst (.ptr d 0),(d,.iter m none)::st.heap⟩
       |_,_=>False)
      |none=>(match xk cx st o with
       |some (kk,x)=>(match dq nt o.dst with
        |true=>seqB cx nt ops rest k ⟨bF st.aV o.dst (.tuple [(wc kk).dX,x.dX]),st.heap⟩
        |false=>False)
       |none=>(match zW cx st o with
        |some r=>(match dq nt o.dst with
         |true=>r.aW.length=r.rows.length/\seqB cx nt ops rest k ⟨bF st.aV o.dst (.d (.int .i64 r.rows.length)),(r.s,.row r.e r.sz r.aW r.fl)::st.heap⟩
         |false=>False)
        |none=>(match AL cx st o with
         |some (g,as)=>(match dq nt o.dst with
          |true=> ∃(ι:Type) (res:ι->AV) (bs:ι->List (Nat×Blk)),(FnC cx g as res bs/\ ∀i,uj (bs i)=true/\qE st.heap (bs i)=true)/\ ∀i,seqB cx nt ops rest k (st.put o.dst (res i) (bs i))
          |false=>False)
         |none=>Bk cx nt o st λst' =>seqB cx nt ops rest k st'))))) (match dq nt o.dst with|true=>seqB cx nt ops rest k (st.put o.dst (.tuple []) [])|false=>False)
theorem jW(hT:bD cx){ops:Array Oper}{E:Env}(hn:E.nt=nt){Q:Exit->Act->World->Prop}:∀(l:List Oper) {k:St->Prop} {st:St} {a:Act} {w:World},seqB cx nt ops.toList l k st->Sim cx E st a w ->
 (∀st' a' w',k st' ->Sim cx E st' a' w' ->Q .normal a' w')->wpList cx.P ops Q l a w
 |[],k,st,a,w,h,hs,hQ=>hQ st a w h hs
 |o::rest,k,st,a,w,h,hs,hQ=>by
  simp only[seqB]at h;unfold wpList;rcases nh h hs with ⟨hw,h⟩|⟨hw,h⟩
  .rw[if_pos hw];split at h
   .rename_i s left yZ;split at h
    .rename_i hd;exact .inl (Tc yZ (by rw[hn];exact dy hd) hs (λhe a' w' hR =>jW hT hn rest (h.1 he) hR hQ) λi kk x hx a' w' hR =>jW hT hn rest (h.2 i kk x hx) hR hQ)
    .exact h.elim
   .split at h
    .rename_i d m hr;split at h
     .rename_i hd hf;exact .inl (Oper.wp_mono (λa' w' hR =>jW hT hn rest h hR hQ) (NM hT hr hf E a w Q (by rw[hn];exact dy hd) hs))
     .exact h.elim
    .split at h
     .rename_i kk x he;split at h
      .rename_i hd;exact .inl (Oper.wp_mono (λa' w' hR =>jW hT hn rest h hR hQ) (PI he E a w Q (by rw[hn];exact dy hd) hs))
      .exact h.elim
     .split at h
      .rename_i r hr;split at h
       .rename_i hd;exact .inl (Oper.wp_mono (λa' w' hR =>jW hT hn rest h.2 hR hQ) (Sq hT hr h.1 E a w Q (by rw[hn];exact dy hd) hs))
       .exact h.elim
      .split at h
       .rename_i g as yR;split at h
        .rename_i hd;obtain⟨ι,res,bs,⟨yA,xJ⟩,h2⟩:=h;exact .inl (Oper.wp_mono (λa' w' ⟨i,hR⟩=>jW hT hn rest (h2 i) hR hQ) (Tj yR yA (λi=>(xJ i).1) (λi=>rF (xJ i).2) E a w Q (by rw[hn];exact dy hd) hs))
        .exact h.elim
       .obtain⟨st1,h1,h2⟩:=Gy hT h;exact .inl (Oper.wp_mono (λa' w' hR =>jW hT hn rest h2 hR hQ) (h1 E a w Q hn hs))
  .rw[if_neg (by simp[hw])];split at h
   .rename_i hd;exact jW hT hn rest h (gA (by rw[hn];exact dy hd) hs) hQ
   .exact h.elim
end
def dg(x:Nat):List Nat->Bool
 |[]=>false
 |y::t=>(match Nat.beq x y with|true=>true|false=>dg x t)
theorem dF{x:Nat}:∀{l:List Nat},dg x l=true ↔ x∈l
 |[]=>by simp[dg]
 |y::t=>by
  simp only[dg];by_cases h:x=y
  .subst h;simp
  .have:Nat.beq x y=false:=by rw[<- Bool.not_eq_true];exact λe=>h (bd e)
   rw[this];simp[dF (l:=t),h]
def fE(o:Oper):List Nat:=(o.after.toList.filter (Region.binds .any)).map (·.on)
def Mm:List Nat->List Nat->List Nat
 |[],acc=>acc
 |x::t,acc=>Mm t (match dg x acc with|true=>acc|false=>x::acc)
def JG(acc:List (List Nat)):List Nat->List Nat->List Nat
 |[],r=>r
 |e::t,r=>JG acc t (Mm (e::(acc[e]?).getD []) r)
def closure:List Oper->List (List Nat)->List (List Nat)
 |[],acc=>acc
 |o::t,acc=>closure t (acc++[JG acc (fE o) []])
def mr:Op->Bool
 | .alloc _=>true
 | .box .. =>true
 | .buildSlice .. =>true
 | .makeMap .. =>true
 | .makeSlice .. =>true
 |_=>false
def vu(c:Call):Bool :=
 (match c.callee with| .value (.func _)=>true|_=>false)&&c.args.toList.all fun| .const _=>true|_=>false
def lV:Op->Bool
 | .indexAddr .. =>true
 | .call c=> !(vu c)
 | .lookup .. =>true
 |_=>false
def kT:AV->Option Nat
 | .ptr s _=>some s
 | .dm s _ _ _=>some s
 |_=>none
def looks(ops:List Oper)(o:Oper):List Nat :=
 (o.op.operands.toList.filterMap fun| .tmp t=>some t|_=>none)++(match o.guard with|some (g,_)=>(match ops[g]? with|some og=>og.dst.toList|none=>[])|none=>[])
def dY(mt:Nat->Nat):List Oper->Nat
 |[]=>0
 |o::t=>(match DP mt o.op with|true=>0|false=>dY mt t+1)
def FJ:Op->Bool
 | .extract .. =>true
 | .move _=>true
 |_=>false
def FQ(ops:List Oper)(cx:List Nat)(m x:Nat)(ci:List Nat):Bool :=
 Nat.blt x m&&(match ops[x]? with
  | some ox => FJ ox.op && (fE ox).all (fun e => dg e ci) && (ops.all fun o => match o.op with | .select .. => false | _ => true) &&
      (List.range ops.length).all (λj=>Nat.beq j x||dg j cx||(match ops[j]? with|some oj=>oj.after.any (λe=>Region.binds .any e&&e.on==x)||ox.apart ops.toArray oj|none=>true))
  |none=>false)
def Gj(ops:List Oper)(cl:List (List Nat))(m i:Nat)(o:Oper):Bool :=
 let ci:=(cl[i]?).getD []
 (fE o).all (λe=>Nat.blt e i&&dg e ci&&((cl[e]?).getD []).all (λx=>dg x ci)) &&
 ci.all (λx=>Nat.blt x i&&(fE o).any (λe=>Nat.beq e x||dg x ((cl[e]?).getD []))) &&
 (match Nat.ble m i with
  |true=>(List.range i).all (λx=>dg x ci||FQ ops ((cl[x]?).getD []) m x ci)
  | false => ((List.range m).all fun j => (match ops[j]? with
      |some oj=>(match Nat.beq i j with
       |true=>true
       | false => (match oj.dst with
           |some d=>(match dg d (looks ops o)with
            |true=>(match Nat.blt j i with|true=>dg j ci|false=>dg i ((cl[j]?).getD []))
            |false=>true)&&(match o.dst with|some d' => !(Nat.beq d d')|none=>true)
           |none=>true)&&(match lV o.op&&mr oj.op&&Nat.blt j i with|true=>dg j ci|false=>true))
      |none=>false)))
def xy(ops:List Oper)(cl:List (List Nat))(m:Nat):Nat->List Oper->Bool
 |_,[]=>true
 |i,o::t=>Gj ops cl m i o&&xy ops cl m (i+1) t
def AN(mt:Nat->Nat)(ops:List Oper):Bool:=xy ops (closure ops []) (dY mt ops) 0 ops
def Ku(cx:Cx)(nt:Nat)(ops:List Oper)(k:St->Prop)(st:St):Prop:=AN cx.chg ops=true/\pH cx nt true ops ops k st
theorem ym{ops:List Oper}{cl:List (List Nat)}{m:Nat}:∀{l:List Oper} {i:Nat},xy ops cl m i l=true-> ∀j o,l[j]? =some o->Gj ops cl m (i+j) o=true
 |[],i,_,j,o,h=>by simp at h
 |x::t,i,hp,j,o,h=>by
  simp only[xy,aU]at hp;cases j with
  |zero=>simp at h;subst h;exact hp.1
  |succ j=>simp at h;have:=ym hp.2 j o h;rwa [show i+1+j=i+(j+1) by omega]at this
theorem Fv{mt:Nat->Nat}:∀{l:List Oper} {i:Nat},i<dY mt l-> ∃o,l[i]? =some o/\DP mt o.op=false
 |[],i,h=>by simp[dY]at h
 |o::t,i,h=>by
  simp only[dY]at h;split at h
  .omega
  .rename_i he;cases i with
   |zero=>exact⟨o,rfl,he⟩
   |succ i=>exact Fv (l:=t) (by omega)
theorem Fu{mt:Nat->Nat}:∀(l:List Oper),dY mt l<=l.length
 |[]=>Nat.le_refl _
 |o::t=>by simp only[dY];split <;> simp;exact Fu t
structure OQ(ops:List Oper)(cx:List Nat)(x:Nat):Prop where
 op:∃ox,ops[x]? =some ox/\FJ ox.op=true
 sel:∀o∈ops,∀cs b,o.op≠ .select cs b
 free:∀ox j oj,ops[x]? =some ox->ops[j]? =some oj->j≠x->j ∉ cx->(∀e∈oj.after,Region.binds .any e=true->e.on≠x)->ox.apart ops.toArray oj=true
theorem Nz{ops:List Oper}{cx:List Nat}{m x:Nat}{ci:List Nat}(h:FQ ops cx m x ci=true):x<m/\OQ ops cx x/\ ∀ox,ops[x]? =some ox-> ∀e∈fE ox,e∈ci:=by
 unfold FQ at h;simp only[aU]at h;obtain⟨h1,h2⟩:=h;split at h2
 .rename_i ox hW;simp only[aU,aI]at h2;obtain⟨⟨⟨h2,h3⟩,h4⟩,h5⟩:=h2;refine⟨Nat.lt_of_succ_le (bB h1),⟨⟨ox,hW,h2⟩,λo ho cs b e=>?_,λyu j oj ho hj kc yE xW=>?_⟩,λyu ho e he=>?_⟩
  .have:=h4 o ho;rw[e]at this;cases this
  .rw[hW]at ho;cases ho;have:=h5 j (List.mem_range.2 (aB.1 hj).1);have hb:Nat.beq j x=false:=by rw[<- Bool.not_eq_true];exact λe=>kc (bd e)
   have xd:dg j cx=false:=by rw[<- Bool.not_eq_true];exact λe=>yE (dF.1 e)
   rw[hb,xd,hj]at this;simp only[ka,Bool.or_eq_true]at this;rcases this with h|h
   .rw[Array.any_eq_true']at h;obtain⟨e,he,hh⟩:=h;simp only[aU,beq_iff_eq]at hh;exact absurd hh.2 (xW e he hh.1)
   .exact h
  .rw[hW]at ho;cases ho;exact dF.1 (h3 e he)
 .cases h2
structure OU(ops:List Oper)(cl:Nat->List Nat)(m:Nat):Prop where
 Kv:∀i o,ops[i]? =some o-> ∀e∈fE o,e<i/\e∈cl i/\ ∀x∈cl e,x∈cl i
 least:∀i o,ops[i]? =some o-> ∀x∈cl i,x<i/\ ∃e∈fE o,e=x\/x∈cl e
 tail:∀i o,ops[i]? =some o->m<=i-> ∀x,x<i->x∈cl i\/(x<m/\OQ ops (cl x) x/\ ∀ox,ops[x]? =some ox-> ∀e∈fE ox,e∈cl i)
 look:∀i o,ops[i]? =some o->i<m-> ∀j oj d,ops[j]? =some oj->j<m->i≠j->oj.dst=some d->d∈looks ops o->(j<i->j∈cl i)/\(i<j->i∈cl j)
 dst:∀i o,ops[i]? =some o->i<m-> ∀j oj d,ops[j]? =some oj->j<m->i≠j->oj.dst=some d->o.dst≠some d
 read:∀i o,ops[i]? =some o->i<m-> ∀j oj,ops[j]? =some oj->j<i->lV o.op=true->mr oj.op=true->j∈cl i
theorem Tk{mt:Nat->Nat}{ops:List Oper}(h:AN mt ops=true):∃cl,OU ops cl (dY mt ops):=by
 refine⟨λi=>((closure ops [])[i]?).getD [],?_,?_,?_,?_,?_,?_⟩
 all_goals
  intro i o ho;have hp:=ym h i o ho;rw[Nat.zero_add]at hp;simp only[Gj,aU]at hp;obtain⟨⟨h1,h2⟩,h3⟩:=hp
 .intro e he;have:=aI.1 h1 e he;simp only[aU]at this;exact⟨Nat.lt_of_succ_le (bB this.1.1),dF.1 this.1.2,λx hx=>dF.1 (aI.1 this.2 x hx)⟩
 .intro x hx;have:=aI.1 h2 x hx;simp only[aU,List.any_eq_true,Bool.or_eq_true]at this;obtain⟨a,e,he,hh⟩:=this;exact⟨Nat.lt_of_succ_le (bB a),e,he,hh.imp bd dF.1⟩
 .intro hm x hx;rw[show Nat.ble (dY mt ops) i=true from Nat.ble_eq_true_of_le hm]at h3;have yg:=aI.1 h3 x (List.mem_range.2 hx);rw[Bool.or_eq_true]at yg;exact yg.imp dF.1 Nz
 all_goals
  intro hm;have xL:Nat.ble (dY mt ops) i=false:=by rw[<- Bool.not_eq_true];intro e;have:=bB e;omega
  rw[xL]at h3
 .intro j oj d hj xQ kc hd hl;have:=aI.1 h3 j (List.mem_range.2 xQ);have kS:Nat.beq i j=false:=by rw[<- Bool.not_eq_true];exact λe=>kc (bd e)
  simp only[hj,kS,hd,dF.2 hl,aU]at this;obtain⟨⟨t1,_⟩,_⟩:=this;refine⟨λhS=>?_,λhS=>?_⟩
  .rw[show Nat.blt j i=true from Nat.ble_eq_true_of_le hS]at t1;exact dF.1 t1
  .have:Nat.blt j i=false:=by rw[<- Bool.not_eq_true];intro e;have:=bB e;omega
   rw[this]at t1;exact dF.1 t1
 .intro j oj d hj xQ kc hd xN;have:=aI.1 h3 j (List.mem_range.2 xQ);have kS:Nat.beq i j=false:=by rw[<- Bool.not_eq_true];exact λe=>kc (bd e)
  simp only[hj,kS,hd,xN,aU]at this;simp at this
 .intro j oj hj hS hr xn;have:=aI.1 h3 j (List.mem_range.2 (by omega));have kS:Nat.beq i j=false:=by rw[<- Bool.not_eq_true];intro e;have:=bd e;omega
  simp only[hj,kS,aU,hr,xn,iS,show Nat.blt j i=true from Nat.ble_eq_true_of_le hS]at this;exact dF.1 this.2
theorem Sim.ext{cx:Cx}{E:Env}{st st' :St}{a:Act}{w:World}(h:Sim cx E st a w)(h1:∀t,st'.get t=st.get t)(h2:∀s,find st'.heap s=find st.heap s):Sim cx E st' a w:=by
 obtain⟨σ,hs⟩:=h;have hl:live st'.heap=live st.heap:=funext λs=>by unfold live;rw[h2]
 refine⟨σ,hs.frame,hs.new,hs.apart,hs.defers,hs.nt,λt=>?_,⟨λs b hb=>?_,?_⟩,hs.fI,hs.dQ,λq0 B hB=>⟨(hs.fix q0 B hB).1,λh=>(hs.fix q0 B hB).2 (by rw[hl]at h;exact h)⟩⟩
 .rw[hl,h1];exact hs.aV t
 .rw[hl];rw[h2]at hb;exact hs.holds.blk s b hb
 .rw[hl];exact hs.holds.inj
theorem iF{f g:AV->Option D}(h:∀c,f c=g c)(l:List AV):cA f l=cA g l:=by
 rw[show f=g from funext h]
theorem IG{st st' :St}(h:st.heap=st'.heap)(c:AV):gU st c=gU st' c:=by
 have hC:∀c,kK st c=kK st' c:=λc=>by cases c <;> simp[kK,h]
 have hP:∀c,gi st c=gi st' c:=λc=>by cases c <;> simp[gi,h,hC,iF hC]
 have hG:∀c,oc st c=oc st' c:=λc=>by cases c <;> simp[oc,hP,iF hP]
 have hK:∀s off,mI st s off=mI st' s off:=λs off=>by unfold mI;rw[h]
 have hB:∀c,lD st c=lD st' c:=λc=>by
  cases c with
  |ptr s off=>simp only[lD,hK,hG,hP]
  |_=>(simp only[lD];exact hP _)
 have hF:∀c,jL st c=jL st' c:=λc=>by cases c <;> simp[jL,hP,iF hP,iF hB]
 cases c <;> simp[gU,hF,iF hF]
theorem GO{st st' :St}(h:st.heap=st'.heap)(c:AV):nZ st c=nZ st' c:=by
 have hC:∀c,oa st c=oa st' c:=λc=>by cases c <;> simp[oa,h]
 cases c <;> simp[nZ,hC,iF hC]
theorem sg{cx:Cx}{st st' :St}:∀(xs:List Operand) (ts:List TypeId),(∀x∈xs,st.ev cx x=st'.ev cx x)->cz cx st xs ts=cz cx st' xs ts
 |[],ts,h=>rfl
 |x::xs,t::ts,h=>by simp only[cz];rw[h x (by simp),sg xs ts λy hy=>h y (by simp[hy])]
 |x::xs,[],h=>by simp only[cz];rw[h x (by simp),sg xs [] λy hy=>h y (by simp[hy])]
theorem yo{cx:Cx}{st st' :St}{size:Nat}:∀(l:List (Nat×Operand)) (i:Nat),(∀p∈l,st.ev cx p.2=st'.ev cx p.2)->pZ st cx size i l=pZ st' cx size i l
 |[],i,h=>rfl
 |(j,x)::t,i,h=>by
  simp only[pZ];have hx:st.ev cx x=st'.ev cx x:=h (j,x) (by simp);rw[hx,yo t (i+1) λy hy=>h y (by simp[hy])]
theorem yp{cx:Cx}{st st' :St}{size:Nat}:∀(l:List (Nat×Operand)) (i:Nat),(∀p∈l,st.ev cx p.2=st'.ev cx p.2)->qc st cx size i l=qc st' cx size i l
 |[],i,h=>rfl
 |(j,x)::t,i,h=>by
  simp only[qc];have hx:st.ev cx x=st'.ev cx x:=h (j,x) (by simp);rw[hx,yp t (i+1) λy hy=>h y (by simp[hy])]
def AM:AV->Bool
 | .d _=>true
 | .nil _=>true
 | .undef=>true
 |_=>false
def nV:AV->Bool
 | .agg cs=>cs.all AM
 |v=>AM v
theorem rR(v:Value):AM (na v)=true:=by
 unfold na;split <;> rfl
theorem tw(v:Value):nV (ofConst v)=true:=by
 unfold ofConst;split
 .simp only[nV,aI,List.mem_map];rintro _ ⟨x, -, rfl⟩;exact rR x
 .rename_i h;have:=rR v;unfold nV;split
  .rename_i hh;rw[hh]at this;cases this
  .exact this
theorem DA{cx:Cx}{t:TypeId}{v:AV}(h:nV v=true):nV (ju cx t v)=true:=by
 unfold ju;split
 .split
  .split <;> rfl
  .rfl
 .exact h
theorem II{st:St}{v:AV}(h:AM v=true):jL st v=mo v:=by
 cases v <;> first|rfl|(cases h;done)
theorem uT{f g:AV->Option D}:∀{l:List AV},(∀x∈l,f x=g x)->cA f l=cA g l
 |[],_=>rfl
 |x::t,h=>by simp only[cA];rw[h x (by simp),uT λy hy=>h y (by simp[hy])]
theorem IH{st:St}{v:AV}(h:nV v=true):gU st v=ir v:=by
 cases v <;> first|rfl|(cases h;done)|skip
 rename_i cs;simp only[nV,aI]at h;have:cA (jL st) cs=cA mo cs:=uT λx hx=>II (h x hx)
 simp only[gU,ir,this]
theorem sh{cx:Cx}{st st' :St}:∀(l:List Operand) (ts:List TypeId),(l.all fun| .const _=>true|_=>false)=true->cz cx st l ts=cz cx st' l ts/\ ∀v∈cz cx st l ts,nV v=true
 |[],_,_=>⟨rfl,λv hv=>by cases hv⟩
 |x::t,ts,h=>by
  simp only[List.all_cons,aU]at h;obtain⟨hx,ht⟩:=h;cases x <;> first|(cases hx;done)|skip
  rename_i v;have e:St.ev cx st (.const v)=ofConst v:=rfl;have e' :St.ev cx st' (.const v)=ofConst v:=rfl;cases ts with
  |nil =>
   obtain⟨h1,h2⟩:=sh (cx:=cx) (st:=st) (st' :=st') t [] ht;refine⟨by simp only[cz,e,e',h1],λu hu=>?_⟩;simp only[cz,e,List.mem_cons]at hu;rcases hu with rfl|hu
   .exact tw v
   .exact h2 u hu
  |cons y ts =>
   obtain⟨h1,h2⟩:=sh (cx:=cx) (st:=st) (st' :=st') t ts ht;refine⟨by simp only[cz,e,e',h1],λu hu=>?_⟩;simp only[cz,e,List.mem_cons]at hu;rcases hu with rfl|hu
   .exact DA (tw v)
   .exact h2 u hu
theorem Nc{cx:Cx}{st st' :St}{f:FuncId}{l:List AV}{k:KK}(h:∀v∈l,nV v=true):fnK cx st (.d (.fn f [] [])) l k=fnK cx st' (.d (.fn f [] [])) l k:=by
 have hv:∀s:St,cA (gU s) l=cA ir l:=λs=>uT λx hx=>IH (h x hx)
 unfold fnK;simp only[callee,List.map_nil,List.nil_append,List.append_nil];have hl:ia cx st f l k=ia cx st' f l k:=by
  unfold ia;cases l with
  |nil=>rfl
  |cons x t =>
   have hx:=h x (by simp);cases x <;> first|rfl|(cases hx;done)
 rw[hl,hv st,hv st'];cases cA ir l with
 |some ds=>rfl
 |none=>rfl
theorem CR{cx:Cx}{st st' :St}{d:Option Nat}{ty:TypeId}{op:Op}{k:KK}(h1:∀x∈op.operands.toList,st.ev cx x=st'.ev cx x)(h2:lV op=true->st.heap=st'.heap)(h3:∀t x,op= .load t x-> ∀s,kT (st.ev cx x)=some s->find st'.heap s=find st.heap s):opK cx d ty st op k=opK cx d ty st' op k:=by
 cases op <;> simp only[Op.operands]at h1 <;> simp only[opK]
 case move x=>rw[h1 x (by simp)]
 case assign x=>rw[h1 x (by simp)]
 case pick c a b=>rw[h1 c (by simp),h1 a (by simp),h1 b (by simp)]
 case box e x=>rw[h1 x (by simp)]
 case build t parts =>
  unfold oZ;have:∀fs:List (Nat×TypeId),parts.toList.map (AJ cx st fs)=parts.toList.map (AJ cx st' fs):=λfs=>by
   refine List.map_congr_left λp hp=>?_
   have:=h1 p.2 (by simp;exact⟨p.1,by simpa using hp⟩);unfold AJ;rw[this]
  simp only[this]
 case buildSlice t n parts =>
  have:∀size,pZ st cx size 0 parts.toList=pZ st' cx size 0 parts.toList:=λsize=>yo _ _ λp hp=>h1 p.2 (by simp;exact⟨p.1,by simpa using hp⟩)
  have xE :∀size,qc st cx size 0 parts.toList=qc st' cx size 0 parts.toList:=λsize=>yp _ _ λp hp=>h1 p.2 (by simp;exact⟨p.1,by simpa using hp⟩)
  simp only[this,xE]
 case load t x =>
  have h3:=h3 t x rfl;rw[h1 x (by simp)]at h3 ⊢;generalize st'.ev cx x=v at h3;unfold nR;cases v <;> first|rfl|(rename_i y;cases y <;> rfl)|(have h4:=h3 _ rfl;simp only[h4])
 case nilCheck x=>rw[h1 x (by simp)]
 case binOp op t x y ty=>rw[h1 x (by simp),h1 y (by simp)]
 case unOp op t x=>rw[h1 x (by simp)]
 case convert s t x=>rw[h1 x (by simp)]
 case makeFunc fn first caps =>
  have e1:first.toList.map (st.ev cx)=first.toList.map (st'.ev cx):=List.map_congr_left λx hx=>h1 x (by simp;left;simpa using hx)
  have e2:caps.toList.map (st.ev cx)=caps.toList.map (st'.ev cx):=List.map_congr_left λx hx=>h1 x (by simp;right;simpa using hx)
  rw[e1,e2]
 case makeSlice t l c=>rw[h1 l (by simp),h1 c (by simp)]
 case slice t x lo hi mx =>
  rw[h1 x (by simp)];have e1:lo.map (st.ev cx)=lo.map (st'.ev cx):=by cases lo with
   |none=>rfl
   |some y=>simp;exact h1 y (by simp)
  have e2:hi.map (st.ev cx)=hi.map (st'.ev cx):=by cases hi with
   |none=>rfl
   |some y=>simp;exact h1 y (by simp)
  rw[e1,e2]
 case fieldAddr s x f=>rw[h1 x (by simp)]
 case field t x f=>rw[h1 x (by simp)]
 case indexAddr t x i=>rw[h1 x (by simp),h1 i (by simp)];unfold eo;rw[h2 rfl]
 case index t x i=>rw[h1 x (by simp),h1 i (by simp)]
 case lookup t x i ok =>
  have hm:∀c,mapOf st c=mapOf st' c:=λc=>by unfold mapOf;rw[h2 rfl]
  rw[h1 x (by simp),h1 i (by simp)];unfold iI;rw[hm,h2 rfl]
 case makeMap t r =>
  have e1:r.map (st.ev cx)=r.map (st'.ev cx):=by cases r with
   |none=>rfl
   |some y=>simp;exact h1 y (by simp)
  rw[e1]
 case extract x i=>rw[h1 x (by simp)]
 case call c =>
  by_cases hc:vu c=true
  .simp only[vu,aU]at hc;obtain⟨yj,yD⟩:=hc;obtain⟨kL,args,ts⟩:=c;cases kL <;> first|(cases yj;done)|skip
   rename_i f;cases f <;> first|(cases yj;done)|skip
   rename_i f;simp only[tP];obtain⟨e1,e2⟩:=sh (cx:=cx) (st:=st) (st' :=st') args.toList ts.toList yD;rw[<- e1];exact Nc e2
  have hh:=h2 (by simp[lV,hc]);obtain⟨kL,args,ts⟩:=c;cases kL with
  |value f =>
   have ef:st.ev cx f=st'.ev cx f:=h1 f (by simp[Call.operands]);have ea:cz cx st args.toList ts.toList=cz cx st' args.toList ts.toList:=sg _ _ λx hx=>h1 x (by simp[Call.operands];right;simpa using hx)
   have ev:∀l,cA (gU st) l=cA (gU st') l:=iF (IG hh);have el:∀l v,Ap st l v=Ap st' l v:=λl v=>by unfold Ap Aq;rw[iF (GO hh),hh]
   have eb:∀g l,ia cx st g l k=ia cx st' g l k:=λg l=>by unfold ia;rw[hh]
   simp only[tP,fnK,ef,ea,ev,eb,el]
  |invoke r m=>rfl
  |builtin b =>
   cases b <;> simp only[tP];have ea:∀x∈args.toList,st.ev cx x=st'.ev cx x:=λx hx=>h1 x (by simp[Call.operands];simpa using hx)
   generalize args.toList=l at ea
   generalize ts.toList=tl
   match l,tl with
   |[x],[t] =>
    have ex:=ea x (by simp);simp only[ex];unfold ln;rw[hh]
   |[],_=>rfl
   |[_],[]=>rfl
   |[_],_::_::_=>rfl
   |_::_::_,_=>rfl
theorem bV{a b}{c:Prop}(h:c)(h1:AN a b=true:=by kernel_rfl):AN a b=true/\c:=⟨h1,h⟩
section
variable {cx:Cx} {st:St} {k:KK}
def lF(v:AV)(bs:List (Nat×Blk)):KK:=λv' xG =>v' =v/\xG =bs
theorem dI(v:AV)(bs:List (Nat×Blk)):lF v bs v bs:=⟨rfl,rfl⟩
theorem eO{o:Option AV}(h:iZ o k):∃v,k v []/\iZ o (lF v []):=by
 cases o with
 |none=>exact h.elim
 |some v=>exact⟨v,h,dI _ _⟩
theorem NF{t:TypeId}{x:AV}(h:nR cx st t x k):∃v,k v []/\nR cx st t x (lF v []):=by
 unfold nR at h;split at h
 .split at h
  .rename_i hf;obtain⟨v,h1,h2⟩:=eO h;exact⟨v,h1,by simp only[nR,hf];exact h2⟩
  .exact h.elim
 .split at h
  .rename_i hf;split at h
   .rename_i hb;obtain⟨row,hr,h⟩:=h;obtain⟨v,h1,h2⟩:=eO h;exact⟨v,h1,by simp only[nR,hf,hb];exact⟨row,hr,h2⟩⟩
   .exact h.elim
  .rename_i hf;split at h
   .rename_i hb;obtain⟨row,hr,h⟩:=h;obtain⟨v,h1,h2⟩:=eO h;exact⟨v,h1,by simp only[nR,hf,hb];exact⟨row,hr,h2⟩⟩
   .exact h.elim
  .rename_i hf;split at h
   .rename_i hb;obtain⟨row,hr,h⟩:=h;obtain⟨v,h1,h2⟩:=eO h;exact⟨v,h1,by simp only[nR,hf,hb];exact⟨row,hr,h2⟩⟩
   .exact h.elim
  .exact h.elim
 .obtain⟨v,h1,h2⟩:=eO h;exact⟨v,h1,h2⟩
 .exact h.elim
theorem BQ{t:TypeId}{x i:AV}(h:eo cx st t x i k):∃v,k v []/\eo cx st t x i (lF v []):=by
 unfold eo at h;split at h
 .split at h
  .rename_i kW;split at h
   .split at h
    .rename_i hb;obtain⟨h0,row,hr,h⟩:=h;exact⟨_,h,by simp only[eo,kW,hb];exact⟨h0,row,hr,dI _ _⟩⟩
    .exact h.elim
   .split at h
    .rename_i hf;split at h
     .rename_i hb;obtain⟨h0,h1,h⟩:=h;exact⟨_,h,by simp only[eo,kW,hf,hb];exact⟨h0,h1,dI _ _⟩⟩
     .exact h.elim
    .rename_i hf;split at h
     .rename_i hb;obtain⟨h0,h1,h⟩:=h;exact⟨_,h,by simp only[eo,kW,hf,hb];exact⟨h0,h1,dI _ _⟩⟩
     .exact h.elim
    .rename_i hf;split at h
     .rename_i hb;obtain⟨h0,h1,h⟩:=h;exact⟨_,h,by simp only[eo,kW,hf,hb];exact⟨h0,h1,dI _ _⟩⟩
     .exact h.elim
    .exact h.elim
   .split at h
    .rename_i hf;split at h
     .rename_i hb xd;obtain⟨h0,h1,h⟩:=h;exact⟨_,h,by simp only[eo,kW,hf,hb,xd];exact⟨h0,h1,dI _ _⟩⟩
     .exact h.elim
    .exact h.elim
   .exact h.elim
  .rename_i kW;split at h
   .rename_i ha;obtain⟨h0,h1,h⟩:=h;obtain⟨v,h2,h3⟩:=eO h;exact⟨v,h2,by simp only[eo,kW,ha];exact⟨h0,h1,h3⟩⟩
   .exact h.elim
 .exact h.elim
theorem KL{t:TypeId}{x i:AV}(h:qF cx t x i k):∃v,k v []/\qF cx t x i (lF v []):=by
 unfold qF at h;split at h
 .rename_i hs;obtain⟨h0,c,hc,h⟩:=h;exact⟨_,h,by simp only[qF,hs];exact⟨h0,c,hc,dI _ _⟩⟩
 .exact h.elim
theorem Py{t:TypeId}{x:AV}{lo hi:Option AV}(h:vx cx t x lo hi k):∃v,k v []/\vx cx t x lo hi (lF v []):=by
 unfold vx at h;split at h
 .split at h
  .rename_i e1 e2 e3;obtain⟨h0,h1,h2,h⟩:=h;exact⟨_,h,by simp only[vx,e1,e2,e3];exact⟨h0,h1,h2,dI _ _⟩⟩
  .exact h.elim
 .split at h
  .rename_i e1 e2 e3;split at h
   .rename_i hb;obtain⟨h0,h1,h2,h⟩:=h;exact⟨_,h,by simp only[vx,e1,e2,e3,hb];exact⟨h0,h1,h2,dI _ _⟩⟩
   .exact h.elim
  .exact h.elim
 .exact h.elim
theorem HU{t:TypeId}{x i:AV}{ok:Bool}(h:iI cx st t x i ok k):∃v,k v []/\iI cx st t x i ok (lF v []):=by
 unfold iI at h;split at h
 .rename_i em;unfold qK at h;split at h
  .rename_i e0;split at h
   .rename_i e1 e2 e3;split at h
    .rename_i e4 e5;obtain⟨r,hr,h⟩:=h;cases r <;> cases ok <;> exact⟨_,h,by simp only[iI,em,qK,e0,e1,e2,e3,e4,e5];exact⟨_,hr,dI _ _⟩⟩
    .exact h.elim
   .exact h.elim
  .rename_i e0;split at h
   .rename_i e1 e2;split at h
    .rename_i e4;obtain⟨r,hr,h⟩:=h;cases r <;> cases ok <;> exact⟨_,h,by simp only[iI,em,qK,e0,e1,e2,e4];exact⟨_,hr,dI _ _⟩⟩
    .exact h.elim
   .exact h.elim
  .exact h.elim
 rename_i em;split at h
 .rename_i e0;split at h
  .rename_i e1 e2 e3;split at h
   .rename_i e4;split at h
    .rename_i e5;cases ok <;> exact⟨_,h,by simp only[iI,em,e0,e1,e2,e3,e4,e5];exact dI _ _⟩
    .rename_i e5;cases ok <;> exact⟨_,h,by simp only[iI,em,e0,e1,e2,e3,e4,e5];exact dI _ _⟩
   .exact h.elim
  .rename_i e1 e2 e3;split at h
   .rename_i e4;obtain⟨r,hr,h⟩:=h;exact⟨_,h,by simp only[iI,em,e0,e1,e2,e3,e4];exact⟨r,hr,dI _ _⟩⟩
   .exact h.elim
  .exact h.elim
 .exact h.elim
theorem Qr{t:TypeId}{x:AV}(h:ln cx st t x k):∃v,k v []/\ln cx st t x (lF v []):=by
 unfold ln at h;split at h
 .split at h
  .rename_i e;exact⟨_,h,by simp only[ln,e];exact dI _ _⟩
  .exact h.elim
 .split at h
  .rename_i e;exact⟨_,h,by simp only[ln,e];exact dI _ _⟩
  .exact h.elim
 .split at h
  .rename_i e;exact⟨_,h,by simp only[ln,e];exact dI _ _⟩
  .exact h.elim
 .split at h
  .rename_i e1 e2;exact⟨_,h,by simp only[ln,e1,e2];exact dI _ _⟩
  .rename_i e1 e2;exact⟨_,h,by simp only[ln,e1,e2];exact dI _ _⟩
  .rename_i e1 e2;exact⟨_,h,by simp only[ln,e1,e2];exact dI _ _⟩
  .exact h.elim
 .split at h
  .rename_i e1 e2;exact⟨_,h,by simp only[ln,e1,e2];exact dI _ _⟩
  .exact h.elim
 .split at h
  .rename_i e1 e2;exact⟨_,h,by simp only[ln,e1,e2];exact dI _ _⟩
  .rename_i e1 e2;exact⟨_,h,by simp only[ln,e1,e2];exact dI _ _⟩
  .exact h.elim
 .split at h
  .rename_i e;exact⟨_,h,by simp only[ln,e];exact dI _ _⟩
  .exact h.elim
 .exact h.elim
theorem Kf{t:TypeId}{parts:List (Nat×Operand)}(h:oZ cx st t parts k):∃v,k v []/\oZ cx st t parts (lF v []):=by
 unfold oZ at h;split at h
 .rename_i e0;split at h
  .rename_i e1;split at h
   .rename_i e2 e3;exact⟨_,h,by simp only[oZ,e0,e1,e2,e3];exact dI _ _⟩
   .exact h.elim
  .exact h.elim
 .exact h.elim
theorem BX{d:Option Nat}{t:TypeId}{l c:AV}{fl:Bool}(h:kC cx d t l c fl k):∃v bs,k v bs/\kC cx d t l c fl (lF v bs):=by
 unfold kC at h;split at h
 .rename_i e0;split at h
  .rename_i e1;obtain⟨h0,h1,h2,h3,h4,h⟩:=h;split at h
   .rename_i e2;exact⟨_,_,h,by simp only[kC,e0,e1];exact⟨h0,h1,h2,h3,h4,by simp only[e2];exact dI _ _⟩⟩
   .exact h.elim
  .exact h.elim
 .exact h.elim
theorem FU{g:FuncId}{args:List AV}(h:ia cx st g args k):∃v,k v []/\ia cx st g args (lF v []):=by
 unfold ia at h;split at h
 .split at h
  .rename_i e1 e2;split at h
   .rename_i e3;obtain⟨v,hF,h⟩:=h;exact⟨v,h,by simp only[ia,e1,e2,e3];exact⟨v,hF,dI _ _⟩⟩
   .exact h.elim
  .exact h.elim
 .exact h.elim
theorem Sy{f:AV}{args:List AV}(h:fnK cx st f args k):∃v bs,k v bs/\fnK cx st f args (lF v bs):=by
 unfold fnK at h;split at h
 .rename_i e0;split at h
  .rename_i e4;obtain⟨v,h1,h2⟩:=FU h;exact⟨v,[],h1,by simp only[fnK,e0,e4];exact h2⟩
  rename_i e4;split at h
  .rename_i e1;obtain⟨v,bs,hF,h⟩:=h;split at h
   .rename_i el;exact⟨v,bs,h,by simp only[fnK,e0,e4,e1];exact⟨v,bs,hF,by simp only[el];exact dI _ _⟩⟩
   .exact h.elim
  .rename_i e1;split at h
   .rename_i e2;obtain⟨v,hF,yH,h⟩:=h;exact⟨v,[],h,by simp only[fnK,e0,e4,e1,e2];exact⟨v,hF,yH,dI _ _⟩⟩
   .exact h.elim
 .exact h.elim
theorem Cf{d:Option Nat}{ty:TypeId}{op:Op}(h:opK cx d ty st op k):∃v bs,k v bs/\(mr op=false->uf op=false->bs=[])/\opK cx d ty st op (lF v bs):=by
 cases op <;> simp only[opK]at h ⊢ <;> try (exact h.elim)
 case move x=>obtain⟨v,h1,h2⟩:=eO h;exact⟨v,[],h1,λ_ _=>rfl,h2⟩
 case assign x =>
  generalize Ns x=nb at h ⊢
  cases nb with
  |true=>exact⟨_,[],h,λ_ _=>rfl,dI _ _⟩
  |false=>obtain⟨v,h1,h2⟩:=eO h;exact⟨v,[],h1,λ_ _=>rfl,h2⟩
 case pick c a b =>
  split at h
  .rename_i t e;cases t with
   |true=>obtain⟨v,h1,h2⟩:=eO h;exact⟨v,[],h1,λ_ _=>rfl,by(try simp only[e]);exact h2⟩
   |false=>obtain⟨v,h1,h2⟩:=eO h;exact⟨v,[],h1,λ_ _=>rfl,by(try simp only[e]);exact h2⟩
  .exact h.elim
 case alloc e =>
  split at h
  .rename_i e1 e2;exact⟨_,_,h,(λhm hc=>by first|(cases hm;done)|(cases hc;done)),by(try simp only[e2]);exact dI _ _⟩
  .exact h.elim
 case box e x =>
  split at h
  .rename_i e1 e2;split at h
   .rename_i e3;split at h
    .rename_i e4;exact⟨_,_,h,(λhm hc=>by first|(cases hm;done)|(cases hc;done)),by(try simp only[e2,e3,e4]);exact dI _ _⟩
    .exact h.elim
   .exact h.elim
  .exact h.elim
 case build t parts=>obtain⟨v,h1,h2⟩:=Kf h;exact⟨v,[],h1,λ_ _=>rfl,h2⟩
 case buildSlice t n parts =>
  split at h
  .rename_i e1 e2;split at h
   .rename_i e3;split at h
    .rename_i e4 e5 e6 e7;exact⟨_,_,h,(λhm hc=>by first|(cases hm;done)|(cases hc;done)),by(try simp only[e2,e3,e4,e5,e6,e7]);exact dI _ _⟩
    .rename_i e4 e5 e6 e7;exact⟨_,_,h,(λhm hc=>by first|(cases hm;done)|(cases hc;done)),by(try simp only[e2,e3,e4,e5,e6,e7]);exact dI _ _⟩
    .exact h.elim
   .rename_i e3;split at h
    .rename_i yx;split at h
     .rename_i e4 e5 e6;exact⟨_,_,h,(λhm hc=>by first|(cases hm;done)|(cases hc;done)),by(try simp only[e2,e3,yx,e4,e5,e6]);exact dI _ _⟩
     .exact h.elim
    .exact h.elim
  .exact h.elim
 case load t x=>obtain⟨v,h1,h2⟩:=NF h;exact⟨v,[],h1,λ_ _=>rfl,h2⟩
 case nilCheck x =>
  split at h
  .rename_i e;exact⟨_,_,h,λ_ _=>rfl,by(try simp only[e]);exact dI _ _⟩
  .rename_i e;exact⟨_,_,h,λ_ _=>rfl,by(try simp only[e]);exact dI _ _⟩
  .rename_i e;exact⟨_,_,h,λ_ _=>rfl,by(try simp only[e]);exact dI _ _⟩
  .rename_i e;exact⟨_,_,h,λ_ _=>rfl,by(try simp only[e]);exact dI _ _⟩
  .rename_i e;exact⟨_,_,h,λ_ _=>rfl,by(try simp only[e]);exact dI _ _⟩
  .exact h.elim
 case binOp =>
  split at h
  .rename_i e;exact⟨_,[],h.2,λ_ _=>rfl,by(try simp only[e]);exact⟨h.1,dI _ _⟩⟩
  .rename_i e;obtain⟨v,h1,h2⟩:=eO h;exact⟨v,[],h1,λ_ _=>rfl,by(try simp only[e]);exact h2⟩
 case unOp=>obtain⟨v,h1,h2⟩:=eO h;exact⟨v,[],h1,λ_ _=>rfl,h2⟩
 case convert=>obtain⟨v,h1,h2⟩:=eO h;exact⟨v,[],h1,λ_ _=>rfl,h2⟩
 case makeFunc fn a b =>
  split at h
  .exact⟨_,_,h,λ_ _=>rfl,dI _ _⟩
  .exact h.elim
 case makeMap t r =>
  split at h
  .rename_i e1 e2 e3;exact⟨_,_,h,(λhm hc=>by first|(cases hm;done)|(cases hc;done)),by(try simp only[e2,e3]);exact dI _ _⟩
  .rename_i e1 e2 e3;exact⟨_,_,h,(λhm hc=>by first|(cases hm;done)|(cases hc;done)),by(try simp only[e2,e3]);exact dI _ _⟩
  .exact h.elim
 case makeSlice t l c=>obtain⟨v,bs,h1,h2⟩:=BX h;exact⟨v,bs,h1,(λhm hc=>by first|(cases hm;done)|(cases hc;done)),h2⟩
 case slice t x lo hi mx =>
  cases mx with
  |none=>obtain⟨v,h1,h2⟩:=Py h;exact⟨v,[],h1,λ_ _=>rfl,h2⟩
  |some _=>exact h.elim
 case fieldAddr=>obtain⟨v,h1,h2⟩:=eO h;exact⟨v,[],h1,λ_ _=>rfl,h2⟩
 case field=>obtain⟨v,h1,h2⟩:=eO h;exact⟨v,[],h1,λ_ _=>rfl,h2⟩
 case indexAddr=>obtain⟨v,h1,h2⟩:=BQ h;exact⟨v,[],h1,λ_ _=>rfl,h2⟩
 case index=>obtain⟨v,h1,h2⟩:=KL h;exact⟨v,[],h1,λ_ _=>rfl,h2⟩
 case lookup=>obtain⟨v,h1,h2⟩:=HU h;exact⟨v,[],h1,λ_ _=>rfl,h2⟩
 case extract=>obtain⟨v,h1,h2⟩:=eO h;exact⟨v,[],h1,λ_ _=>rfl,h2⟩
 case call c =>
  obtain⟨kL,args,ts⟩:=c;cases kL with
  |value f=>obtain⟨v,bs,h1,h2⟩:=Sy h;exact⟨v,bs,h1,(λhm hc=>by first|(cases hm;done)|(cases hc;done)),h2⟩
  |invoke r m=>exact h.elim
  |builtin b =>
   cases b <;> simp only[tP]at h ⊢ <;> try (exact h.elim)
   split at h
   .rename_i e1 e2;obtain⟨v,h1,h2⟩:=Qr h;exact⟨v,[],h1,λ_ _=>rfl,by(try simp only[e1,e2]);exact h2⟩
   .exact h.elim
end
abbrev Ent:=Option Nat×AV×List (Nat×Blk)
def gn:List Ent->St->St
 |[],st=>st
 |e::t,st=>gn t (st.put e.1 e.2.1 e.2.2)
def gj(ops:List Oper)(S:St)(o:Oper)(b:Bool):Prop :=
 match o.guard with
 |none=>b=true
 |some (g,want)=> ∃og d,ops[g]? =some og/\og.dst=some d/\((S.get d= .d (.bool want)/\b=true)\/(S.get d= .d (.bool (!want))/\b=false)\/(S.get d= .tuple []/\b=false))
theorem mN{ops:List Oper}{S:St}{o:Oper}{yes no:Prop}(h:iW ops S o yes no):(gj ops S o true/\yes)\/(gj ops S o false/\no):=by
 unfold iW at h;unfold gj;split at h
 .rename_i hg;(try rw[hg]);exact .inl ⟨rfl,h⟩
 .rename_i g want hg
  (try rw[hg])
  split at h
  .rename_i og kD;split at h
   .rename_i d hd;split at h
    .rename_i b hb;cases want <;> cases b <;> simp only[rq]at h
     .exact .inl ⟨⟨og,d,kD,hd,.inl ⟨hb,rfl⟩⟩,h⟩
     .exact .inr ⟨⟨og,d,kD,hd,.inr (.inl ⟨hb,rfl⟩)⟩,h⟩
     .exact .inr ⟨⟨og,d,kD,hd,.inr (.inl ⟨hb,rfl⟩)⟩,h⟩
     .exact .inl ⟨⟨og,d,kD,hd,.inl ⟨hb,rfl⟩⟩,h⟩
    .rename_i hb;exact .inr ⟨⟨og,d,kD,hd,.inr (.inr ⟨hb,rfl⟩)⟩,h⟩
    .exact h.elim
   .exact h.elim
  .exact h.elim
theorem gG{cx:Cx}{E:Env}{ops:Array Oper}{S st:St}{o:Oper}{b:Bool}(h:gj ops.toList S o b)(hl:∀d∈looks ops.toList o,st.get d=S.get d){a:Act}{w:World}(hs:Sim cx E st a w):Region.wanted o (yielded ops a.tmps)=b:=by
 obtain⟨σ,hs⟩:=hs;unfold gj at h;unfold Region.wanted;cases hg:o.guard with
 |none=>rw[hg]at h;exact h.symm
 |some p =>
  obtain⟨g,want⟩:=p;rw[hg]at h;obtain⟨og,d,h1,h2,h3⟩:=h;have kp:d∈looks ops.toList o:=by unfold looks;rw[hg];simp only[h1,h2];simp
  have hj:ops[g]? =some og:=by rw[<- bx];exact h1
  have hr:=hs.aV d;rw[hl d kp]at hr;dsimp only;rcases h3 with ⟨e,rfl⟩|⟨e,rfl⟩|⟨e,rfl⟩
  .rw[e]at hr;rw[rn hj h2 hr.bool];simp
  .rw[e]at hr;rw[rn hj h2 hr.bool];cases want <;> rfl
  .rw[e]at hr;have hv:a.tmps.getD d Go.undef= .tuple #[]:=by
    generalize a.tmps.getD d Go.undef=u at hr
    cases hr with|tuple _ vs hl _=>rw[Array.eq_empty_of_size_eq_zero hl]
   rw[wW hj h2 hv];simp
def Good(cx:Cx)(nt:Nat)(ops:List Oper)(o:Oper)(S:St)(e:Ent):Prop :=
 dq nt o.dst=true/\e.1=o.dst/\(∀s,live e.2.2 s-> ¬live S.heap s)/\(mr o.op=false->e.2.2=[]) /\
 ((gj ops S o true/\ ∀R:St,(∀x∈o.op.operands.toList,S.ev cx x=R.ev cx x)->(lV o.op=true->S.heap=R.heap)->(∀t x,o.op= .load t x-> ∀s,kT (S.ev cx x)=some s->find R.heap s=find S.heap s)->cV cx o R e.2.1 e.2.2)\/(gj ops S o false/\e.2.1= .tuple []/\e.2.2=[]))
theorem Ni{cx:Cx}{nt:Nat}(hT:bD cx){ops:List Oper}{o:Oper}{S:St}{K:St->Prop}(he:DP cx.chg o.op=false)
 (h:iW ops S o (jK cx nt true o S K) (match dq nt o.dst with|true=>K (S.put o.dst (.tuple []) [])|false=>False)):∃e,Good cx nt ops o S e/\K (S.put e.1 e.2.1 e.2.2):=by
 rcases mN h with ⟨hw,h⟩|⟨hw,h⟩
 .unfold jK at h;rw[he]at h;split at h
  .rename_i h1 h2;cases h2
  .rename_i hd _;have h' :∃v bs,(∀R:St,(∀x∈o.op.operands.toList,S.ev cx x=R.ev cx x)->(lV o.op=true->S.heap=R.heap)->(∀t x,o.op= .load t x-> ∀s,kT (S.ev cx x)=some s->find R.heap s=find S.heap s)->cV cx o R v bs)/\(mr o.op=false->uf o.op=false->bs=[])/\(match Po true o.op bs,qE S.heap bs with|true,true=>K (S.put o.dst v bs)|_,_=>False):=by
    obtain⟨v,bs,hk,hm,hj⟩:=Cf h;refine⟨v,bs,λR hx hr yS=>?_,hm,hk⟩;rw[CR hx hr yS]at hj;obtain⟨v',xG,ho,rfl,rfl⟩:=qR hT hj;exact ho
   obtain⟨v,bs,h1,h2,h3⟩:=h';split at h3
   .rename_i hb hf;have xJ:mr o.op=false->bs=[]:=λxn=>by
     cases hc:uf o.op with
     |false=>exact h2 xn hc
     |true =>
      cases bs with
      |nil=>rfl
      |cons x t=>simp[Po,hc]at hb
    exact⟨(o.dst,v,bs),⟨hd,rfl,rF hf,xJ,.inl ⟨hw,h1⟩⟩,h3⟩
   .exact h3.elim
  .exact h.elim
 .split at h
  .rename_i hd;exact⟨(o.dst,.tuple [],[]),⟨hd,rfl,λs hl=>by simp[live,find]at hl,λ_=>rfl,.inr ⟨hw,rfl,rfl⟩⟩,h⟩
  .exact h.elim
theorem uV(l m:List Ent)(st:St):gn (l++m) st=gn m (gn l st):=by
 induction l generalizing st with
 |nil=>rfl
 |cons e t ih=>exact ih _
def tC(cx:Cx)(nt:Nat)(ops:List Oper)(st0:St)(res:List Ent)(n:Nat):Prop :=
 ∀j,j<n-> ∃o e,ops[j]? =some o/\res[j]? =some e/\Good cx nt ops o (gn (res.take j) st0) e
theorem trace{cx:Cx}{nt:Nat}(hT:bD cx){ops:List Oper}{st0:St}{k:St->Prop}:∀(r i:Nat) (res:List Ent),i+r=dY cx.chg ops->res.length=i->tC cx nt ops st0 res i->pH cx nt true ops (ops.drop i) k (gn res st0) ->
 ∃kZ,kZ.length=dY cx.chg ops/\tC cx nt ops st0 kZ (dY cx.chg ops)/\pH cx nt true ops (ops.drop (dY cx.chg ops)) k (gn kZ st0):=by
 intro r;induction r with
 |zero =>
  intro i res hi hl hg h;obtain rfl:i=dY cx.chg ops:=by omega
  exact⟨res,hl,hg,h⟩
 |succ r ih =>
  intro i res hi hl hg h;obtain⟨o,ho,he⟩:=Fv (mt:=cx.chg) (l:=ops) (i:=i) (by omega);have hS:i<ops.length:=(aB.1 ho).1;have ku:ops.drop i=o::ops.drop (i+1):=by
   rw[List.drop_eq_getElem_cons hS]
   congr 1
   exact(aB.1 ho).2
  rw[ku]at h;simp only[pH]at h;obtain⟨e,xf,hk⟩:=Ni hT he h;refine ih (i+1) (res++[e]) (by omega) (by simp[hl]) (λj hj=>?_) (by rw[uV];exact hk);by_cases xP:j<i
  .obtain⟨o',e',h1,h2,h3⟩:=hg j xP;refine⟨o',e',h1,by rw[cU (by omega)];exact h2,?_⟩;rw[List.take_append_of_le_length (by omega)];exact h3
  .obtain rfl:j=i:=by omega
   refine⟨o,e,ho,by rw[cL (by omega),hl];simp,?_⟩;rw[List.take_append_of_le_length (by omega),List.take_of_length_le (by omega)];exact xf
structure At(st0:St)(res:List Ent)(L:Nat->Bool)(st:St):Prop where
 slot:∀t,(∃j e,L j=true/\res[j]? =some e/\e.1=some t/\st.get t=e.2.1)\/((∀j e,L j=true->res[j]? =some e->e.1≠some t)/\st.get t=st0.get t)
 heap:∀s,(∃j e b,L j=true/\res[j]? =some e/\find e.2.2 s=some b/\find st.heap s=some b)\/((∀j e,L j=true->res[j]? =some e-> ¬live e.2.2 s)/\find st.heap s=find st0.heap s)
theorem At.step{st0:St}{res:List Ent}{L L' :Nat->Bool}{st:St}(h:At st0 res L st){i:Nat}{e:Ent}(he:res[i]? =some e)(hL:∀j,L' j=true ↔ (L j=true\/j=i)):At st0 res L' (st.put e.1 e.2.1 e.2.2):=by
 refine⟨λt=>?_,λs=>?_⟩
 .rw[St.fX];by_cases ht:e.1=some t
  .rw[if_pos ht];exact .inl ⟨i,e,(hL i).2 (.inr rfl),he,ht,rfl⟩
  .rw[if_neg ht];rcases h.slot t with ⟨j,e',h1,h2,h3,h4⟩|⟨h1,h2⟩
   .exact .inl ⟨j,e',(hL j).2 (.inl h1),h2,h3,h4⟩
   .refine .inr ⟨λj e' hj ki =>?_,h2⟩;rcases (hL j).1 hj with hj|rfl
    .exact h1 j e' hj ki
    .rw[he]at ki;cases ki;exact ht
 .show _\/(_/\find (e.2.2++st.heap) s=_)
  have kv:find (st.put e.1 e.2.1 e.2.2).heap s=(find e.2.2 s).or (find st.heap s):=sm _ _ _;cases hb:find e.2.2 s with
  |some b=>exact .inl ⟨i,e,b,(hL i).2 (.inr rfl),he,hb,by rw[kv,hb];rfl⟩
  |none =>
   rw[hb]at kv;have kx :find (st.put e.1 e.2.1 e.2.2).heap s=find st.heap s:=by simpa using kv
   rcases h.heap s with ⟨j,e',b,h1,h2,h3,h4⟩|⟨h1,h2⟩
   .exact .inl ⟨j,e',b,(hL j).2 (.inl h1),h2,h3,kx.trans h4⟩
   .refine .inr ⟨λj e' hj ki =>?_,kx.trans h2⟩;rcases (hL j).1 hj with hj|rfl
    .exact h1 j e' hj ki
    .rw[he]at ki;cases ki;unfold live;rw[hb];simp
theorem Ez{st0:St}{res:List Ent}:∀(i:Nat),i<=res.length->At st0 res (λj=>decide (j<i)) (gn (res.take i) st0):=by
 intro i;induction i with
 |zero=>intro _;exact⟨λt=> .inr ⟨λj e hj=>by simp at hj,rfl⟩,λs=> .inr ⟨λj e hj=>by simp at hj,rfl⟩⟩
 |succ i ih =>
  intro hi;have hg:res[i]? =some res[i]:=au (by omega);rw[List.take_succ_eq_append_getElem (by omega),uV];exact(ih (by omega)).step hg (λj=>by simp;omega)
theorem vN{f:Nat->AV}:∀{l:List Nat} {t:Nat},find (l.map λx=>(x,f x)) t=if t∈l then some (f t)else none
 |[],t=>by simp[find]
 |x::l,t=>by
  rw[List.map_cons];by_cases h:x=t
  .subst h;rw[bk];simp
  .rw[bl _ _ h,vN];simp[show ¬t=x from λe=>h e.symm]
section
variable {cx:Cx} {nt:Nat} {ops:List Oper} {st0:St} {res:List Ent} {cl:Nat->List Nat} {m:Nat}
theorem lh(hg:tC cx nt ops st0 res m)(hl:res.length=m){j:Nat}{e:Ent}{s:Nat}(hj:j<m)(he:res[j]? =some e)(hs:live e.2.2 s):(∀j' e',j' <j->res[j']? =some e' -> ¬live e'.2.2 s)/\ ¬live st0.heap s:=by
 obtain⟨o,e0,_,h2,_,_,h5,_⟩:=hg j hj;rw[he]at h2;cases h2;have kF:=h5 s hs;have kb:=(Ez (st0:=st0) (res:=res) j (by omega)).heap s;rcases kb with ⟨j1,e1,b,_,_,_,h4⟩|⟨h1,h2⟩
 .exact absurd (aH.2 ⟨b,h4⟩) kF
 .refine⟨λj' e' hS ki =>h1 j' e' (by simpa using hS) ki,λyn=>kF ?_⟩;unfold live at yn ⊢;rw[h2];exact yn
theorem rT(hg:tC cx nt ops st0 res m)(hl:res.length=m){j j' :Nat}{e e' :Ent}{s:Nat}(he:res[j]? =some e)(ki :res[j']? =some e')(hs:live e.2.2 s)(hR :live e'.2.2 s):j=j' :=by
 have hj:j<m:=by rw[<- hl];exact(aB.1 he).1
 have kB :j' <m:=by rw[<- hl];exact(aB.1 ki).1
 rcases Nat.lt_trichotomy j j' with h|h|h
 .exact absurd hs ((lh hg hl kB ki hR).1 j e h he)
 .exact h
 .exact absurd hR ((lh hg hl hj he hs).1 j' e' h ki)
theorem vD(hg:tC cx nt ops st0 res m){j:Nat}{e:Ent}(hj:j<m)(he:res[j]? =some e):∃o,ops[j]? =some o/\e.1=o.dst/\(mr o.op=false->e.2.2=[]):=by
 obtain⟨o,e0,h1,h2,_,h4,_,h6,_⟩:=hg j hj;rw[he]at h2;cases h2;exact⟨o,h1,h4,h6⟩
theorem Gp(hp:OU ops cl m)(hg:tC cx nt ops st0 res m)(hl:res.length=m){j j' :Nat}{e e' :Ent}{t:Nat}(he:res[j]? =some e)(ki :res[j']? =some e')(hs:e.1=some t)(hR :e'.1=some t):j=j' :=by
 have hj:j<m:=by rw[<- hl];exact(aB.1 he).1
 have kB :j' <m:=by rw[<- hl];exact(aB.1 ki).1
 obtain⟨o,h1,h2,_⟩:=vD hg hj he;obtain⟨o',yy,yz,_⟩:=vD hg kB ki;rcases Nat.decEq j j' with kc|h
 .exact absurd (h2 ▸ hs) (hp.dst j o h1 hj j' o' t yy kB kc (yz ▸ hR))
 .exact h
theorem agree(hp:OU ops cl m)(hg:tC cx nt ops st0 res m)(hl:res.length=m){L:Nat->Bool}{st:St}(kb:At st0 res L st)(hI:∀j,L j=true-> ∀x∈cl j,L x=true){i:Nat}{o:Oper}(hi:i<m)(ho:ops[i]? =some o)(kl:L i=false)
 (ke:∀x∈cl i,L x=true) :
 (∀d∈looks ops o,st.get d=(gn (res.take i) st0).get d)/\(lV o.op=true-> ∀s b,find (gn (res.take i) st0).heap s=some b->find st.heap s=some b)/\(∀s b,live st.heap s->find (gn (res.take i) st0).heap s=some b->find st.heap s=some b):=by
 have hZ:=Ez (st0:=st0) (res:=res) i (by omega);have hV:∀{j:Nat} {e:Ent},res[j]? =some e->j<m:=λh=>by rw[<- hl];exact(aB.1 h).1
 refine⟨λd hd=>?_,λhr s b hs=>?_,λs b yq hs=>?_⟩
 .rcases kb.slot d with ⟨j,e,h1,h2,h3,h4⟩|⟨h1,h2⟩
  .have hj:=hV h2;obtain⟨oj,xr,xX,_⟩:=vD hg hj h2;have kc:i≠j:=λe=>by subst e;rw[kl]at h1;cases h1
   have xl:=hp.look i o ho hi j oj d xr hj kc (xX ▸ h3) hd;have xP:j<i:=by
    rcases Nat.lt_trichotomy i j with h|h|h
    .have:=hI j h1 i (xl.2 h);rw[kl]at this;cases this
    .exact absurd h kc
    .exact h
   rcases hZ.slot d with ⟨j',e',q1,q2,q3,q4⟩|⟨q1,_⟩
   .obtain rfl:=Gp hp hg hl h2 q2 h3 q3;rw[h2]at q2;cases q2;rw[h4,q4]
   .exact absurd h3 (q1 j e (by simpa using xP) h2)
  .rcases hZ.slot d with ⟨j',e',q1,q2,q3,q4⟩|⟨_,q2⟩
   .have kB :=hV q2;obtain⟨oj,xr,xX,_⟩:=vD hg kB q2;have hS:j' <i:=by simpa using q1
    have:=ke j' ((hp.look i o ho hi j' oj d xr kB (by omega) (xX ▸ q3) hd).1 hS);exact absurd q3 (h1 j' e' this q2)
   .rw[h2,q2]
 .rcases hZ.heap s with ⟨j,e,b',h1,h2,h3,h4⟩|⟨h1,h2⟩
  .rw[h4]at hs;cases hs;have hj:=hV h2;have hS:j<i:=by simpa using h1
   obtain⟨oj,xr,_,yQ⟩:=vD hg hj h2;have xn:mr oj.op=true:=by
    cases hm:mr oj.op with
    |true=>rfl
    |false=>rw[yQ hm]at h3;cases h3
   have yB:=ke j (hp.read i o ho hi j oj xr hS hr xn);rcases kb.heap s with ⟨j',e',kJ,q1,q2,q3,q4⟩|⟨q1,_⟩
   .obtain rfl:=rT hg hl h2 q2 (aH.2 ⟨b,h3⟩) (aH.2 ⟨kJ,q3⟩);rw[h2]at q2;cases q2;rw[h3]at q3;cases q3;exact q4
   .exact absurd (aH.2 ⟨b,h3⟩) (q1 j e yB h2)
  .rw[h2]at hs;rcases kb.heap s with ⟨j',e',kJ,q1,q2,q3,_⟩|⟨_,q2⟩
   .exact absurd (aH.2 ⟨b,hs⟩) (lh hg hl (hV q2) q2 (aH.2 ⟨kJ,q3⟩)).2
   .rw[q2];exact hs
 .rcases hZ.heap s with ⟨j,e,b',h1,h2,h3,h4⟩|⟨h1,h2⟩
  .rw[h4]at hs;cases hs;rcases kb.heap s with ⟨j',e',kJ,q1,q2,q3,q4⟩|⟨q1,q2⟩
   .obtain rfl:=rT hg hl h2 q2 (aH.2 ⟨b,h3⟩) (aH.2 ⟨kJ,q3⟩);rw[h2]at q2;cases q2;rw[h3]at q3;cases q3;exact q4
   .refine absurd ?_ (lh hg hl (hV h2) h2 (aH.2 ⟨b,h3⟩)).2;unfold live at yq ⊢;rw[<- q2];exact yq
  .rw[h2]at hs;rcases kb.heap s with ⟨j',e',kJ,q1,q2,q3,_⟩|⟨_,q2⟩
   .exact absurd (aH.2 ⟨b,hs⟩) (lh hg hl (hV q2) q2 (aH.2 ⟨kJ,q3⟩)).2
   .rw[q2];exact hs
end
def uz(cx:Cx)(S:St)(o:Oper):List (Nat×Blk) :=
 match o.op with
 | .load _ x=>(match kT (S.ev cx x)with|some s=>(match find S.heap s with|some b=>[(s,b)]|none=>[])|none=>[])
 |op=>if lV op then S.heap else[]
theorem Lm{cx:Cx}{S:St}{o:Oper}(h:lV o.op=true):uz cx S o=S.heap:=by
 unfold uz;split
 .rename_i e;rw[e]at h;cases h
 .rename_i op _;exact if_pos h
theorem Ll{cx:Cx}{S:St}{o:Oper}{t:TypeId}{x:Operand}(h:o.op= .load t x){s:Nat}(hs:kT (S.ev cx x)=some s):find (uz cx S o) s=find S.heap s:=by
 unfold uz;rw[h];simp only[hs];split
 .rename_i b hb;rw[bk,hb]
 .rename_i hb;rw[hb];rfl
theorem Lk{cx:Cx}{S:St}{o:Oper}{s:Nat}{b:Blk}(h:find (uz cx S o) s=some b):find S.heap s=some b/\(lV o.op=true\/ ∃t x,o.op= .load t x/\kT (S.ev cx x)=some s):=by
 unfold uz at h;split at h
 .rename_i t x e;split at h
  .rename_i s' hs;split at h
   .rename_i b' hb;by_cases e' :s' =s
    .subst e';rw[bk]at h;cases h;exact⟨hb,.inr ⟨t,x,e,hs⟩⟩
    .rw[bl _ _ e']at h;cases h
   .cases h
  .cases h
 .split at h
  .rename_i hr;exact⟨h,.inl hr⟩
  .cases h
theorem Oj{cx:Cx}{E:Env}{S st:St}{a:Act}{w:World}(hs:Sim cx E st a w){x:Operand}{s:Nat}(h:kT (S.ev cx x)=some s)(hx:∀t,x= .tmp t->st.get t=S.get t):live st.heap s:=by
 obtain⟨σ,hs⟩:=hs;cases x with
 |tmp t =>
  have hr:=hs.aV t;rw[hx t rfl]at hr;have h' :kT (S.get t)=some s:=h;generalize S.get t=v at hr h';generalize a.tmps.getD t Go.undef=u at hr;cases hr <;> first|(cases h';assumption)|cases h'
 |const v =>
  exfalso
  have h' :kT (ofConst v)=some s:=h;unfold ofConst at h';split at h'
  .cases h'
  .unfold na at h';split at h' <;> cases h'
 |global g =>
  exfalso
  have h' :kT (match cx.gl g with|some cells=>AV.d (.ptr cells)|none=> .undef)=some s:=h;split at h' <;> cases h'
 |func f=>cases h
theorem zT{p p' :Nat->Bool}(h:∀j,p' j=true->p j=true){i:Nat}(h1:p i=true)(h2:p' i=false):∀{l:List Nat},i∈l->(l.filter p').length<(l.filter p).length:=by
 have hle:∀l:List Nat,(l.filter p').length<=(l.filter p).length:=by
  intro l;induction l with
  |nil=>simp
  |cons x t ih =>
   simp only[List.filter_cons];cases hx:p' x with
   |true=>rw[h x hx];simp;exact ih
   |false=>cases p x <;> simp <;> omega
 intro l;induction l with
 |nil=>intro hm;cases hm
 |cons x t ih =>
  intro hm;simp only[List.filter_cons];rcases List.mem_cons.1 hm with rfl|hm
  .rw[h1,h2];simp;have:=hle t;omega
  .have:=ih hm;cases hx:p' x with
   |true=>rw[h x hx];simp;exact this
   |false=>cases p x <;> simp <;> omega
theorem ga{ops:Array Oper}{listed:Array Bool}(hN:listed.size=ops.size){i:Nat}:i∈Region.ready .any ops listed ↔ ∃o,ops.toList[i]? =some o/\listed.getD i false=false/\ ∀e∈fE o,listed.getD e false=true:=by
 unfold Region.ready;simp only[List.mem_filter,List.mem_range,aU];constructor
 .rintro⟨hi,h1,h2⟩;have ho:ops[i]? =some ops[i]:=Array.getElem?_eq_getElem hi;refine⟨ops[i],by rw[bx];exact ho,?_,λe he=>?_⟩
  .have ko :i<listed.size:=by omega
   simp[ko]at h1 ⊢;exact h1
  .rw[ho]at h2;simp only[Option.map_some,Option.getD_some,Array.all_eq_true_iff_forall_mem]at h2;obtain⟨x,hx,rfl⟩:=List.mem_map.1 he;obtain⟨za,zb⟩:=List.mem_filter.1 hx;have:=h2 x (by simpa using za);simpa [zb] using this
 .rintro⟨o,ho,h1,h2⟩;have hi:i<ops.size:=by have:=(aB.1 ho).1;simpa using this
  have ko :i<listed.size:=by omega
  refine⟨hi,by simp[ko]at h1 ⊢;exact h1,?_⟩;rw[bx]at ho;rw[ho];simp only[Option.map_some,Option.getD_some,Array.all_eq_true_iff_forall_mem];intro x hx;cases hb:Region.binds .any x with
  |false=>simp
  |true =>
   have:=h2 x.on (List.mem_map.2 ⟨x,List.mem_filter.2 ⟨by simpa using hx,hb⟩,rfl⟩);simpa using this
def AF(Q:Exit->Act->World->Prop):Exit->Act->World->Prop
 | .normal,a,w=>Q .normal a w
 |_,_,_=>False
theorem HD{P:Program}{o:Oper}(hl:FJ o.op=true){a:Act}{w:World}{K:Act->World->Prop}(h:o.wp P a w K λ_ _ _=>False):∃z,(∀w',(execOp a.eval o).run P w' = .ok (.value z) w')/\K (a.put o.dst z) w:=by
 cases ho:o.op <;> rw[ho]at hl <;> try (cases hl;done)
 case extract x i =>
  unfold Oper.wp at h;have hex:∀w',(execOp a.eval o).run P w' =(do let v <- Instr.extract (a.eval x) i;pure (.value v):Sem Next).run P w' :=λw' =>by simp only[execOp,ho]
  rw[hex]at h;unfold Instr.extract at h hex;split at h
  .rename_i vs;split at h
   .rename_i v hv;refine⟨v,λw' =>?_,?_⟩
    .rw[hex w'];simp_all
    .simpa [Oper.upon] using h
   .simp[Oper.upon,Sem.run,stuck]at h
  .simp[Oper.upon,Sem.run,stuck]at h
 case move x =>
  unfold Oper.wp at h;simp only[execOp,ho]at h ⊢;exact⟨a.eval x,λw' =>rfl,by simpa [Oper.upon] using h⟩
theorem MR{cx:Cx}{nt:Nat}(hT:bD cx){ops:Array Oper}{E:Env}(hn:E.nt=nt){Q:Exit->Act->World->Prop}{k:St->Prop}{st:St}{a:Act}{w:World}(h:Ku cx nt ops.toList k st)(hs:Sim cx E st a w)
 (hQ:∀st' a' w',k st' ->Sim cx E st' a' w' ->Q .normal a' w'):wpAny cx.P .any ops (AF Q) ops.size (Array.replicate ops.size false) a {w with drawn:=w.drawn+1}:=by
 replace hQ:∀st' a' w',k st' ->Sim cx E st' a' w' ->AF Q .normal a' w' :=hQ;have yh:∀c a w,¬AF Q (.panic c) a w:=λc a w h=>h
 generalize AF Q=Q at hQ yh ⊢
 obtain⟨xw,hZ⟩:=h;obtain⟨cl,hp⟩:=Tk xw;obtain⟨res,hl,hg,xC⟩:=trace (cx:=cx) (nt:=nt) (ops:=ops.toList) (st0:=st) (k:=k) hT (dY cx.chg ops.toList) 0 [] (by omega) rfl (λj hj=>by omega) (by simpa [gn] using hZ);have yO:dY cx.chg ops.toList<=ops.size:=by simpa using Fu (mt:=cx.chg) ops.toList
 have xx:Sim cx E st a {w with drawn:=w.drawn+1}:=by
  obtain⟨σ,hs⟩:=hs;have hk:bw w {w with drawn:=w.drawn+1} (Own E.O (live st.heap) σ) (Own E.O (live st.heap) σ):=⟨Nat.le_refl _,λ_ _ _=>rfl,λ_ h _=>h⟩
  have km:∀s,live st.heap s->live st.heap s/\σ s=σ s:=λs h=>⟨h,rfl⟩
  exact⟨σ,⟨hs.frame.os,hs.frame.tape,hs.frame.output,hs.frame.size,hs.frame.block⟩,hs.new,hs.apart,hs.defers,hs.nt,λt=>(hs.aV t).mono hk km,
   ⟨λs b hb=>cZ.mono hk km (aH.2 ⟨b,hb⟩) (λ_ _=>rfl) (hs.holds.blk s b hb),hs.holds.inj⟩,hs.fI,hs.dQ,hs.fix⟩
 have getSet:∀(listed:Array Bool) (i j:Nat),i<listed.size->(listed.setIfInBounds i true).getD j false=if j=i then true else listed.getD j false:=by
  intro listed i j hi;simp only[bM];by_cases e:j=i
  .subst e;simp[hi]
  .rw[if_neg e,Array.getElem?_setIfInBounds_ne (λh=>e h.symm)]
 let Ph1 (listed:Array Bool) (a:Act) (w:World):Prop:= ∃s,(∀j,dY cx.chg ops.toList<=j->listed.getD j false=false)/\At st res (λj=>listed.getD j false) s/\Sim cx E s a w
 let Ph2 (listed:Array Bool) (a:Act) (w:World):Prop:= ∃q s,dY cx.chg ops.toList<=q/\q<=ops.size/\(∀j,listed.getD j false=decide (j<q))/\pH cx nt true ops.toList (ops.toList.drop q) k s/\Sim cx E s a w
 have norm:∀(listed:Array Bool) (a:Act) (w:World),Ph1 listed a w->(∀j,j<dY cx.chg ops.toList->listed.getD j false=true)->Ph2 listed a w:=by
  rintro listed a w ⟨s,h1,kb,hs⟩ hJ;refine⟨dY cx.chg ops.toList,gn res st,Nat.le_refl _,yO,λj=>?_,xC,?_⟩
  .by_cases hj:j<dY cx.chg ops.toList
   .rw[hJ j hj];simp[hj]
   .rw[h1 j (by omega)];simp[hj]
  .have hZ:=Ez (st0:=st) (res:=res) (dY cx.chg ops.toList) (by omega);rw[List.take_of_length_le (by omega)]at hZ;have hV:∀{j:Nat} {e:Ent},res[j]? =some e->j<dY cx.chg ops.toList:=λh=>by rw[<- hl];exact(aB.1 h).1
   refine hs.ext (λt=>?_) (λx=>?_)
   .rcases kb.slot t with ⟨j,e,q1,q2,q3,q4⟩|⟨q1,q2⟩ <;> rcases hZ.slot t with ⟨j',e',r1,r2,r3,r4⟩|⟨r1,r2⟩
    .obtain rfl:=Gp hp hg hl q2 r2 q3 r3;rw[q2]at r2;cases r2;rw[q4,r4]
    .exact absurd q3 (r1 j e (by simpa using hV q2) q2)
    .exact absurd r3 (q1 j' e' (hJ j' (hV r2)) r2)
    .rw[q2,r2]
   .rcases kb.heap x with ⟨j,e,b,q1,q2,q3,q4⟩|⟨q1,q2⟩ <;> rcases hZ.heap x with ⟨j',e',b',r1,r2,r3,r4⟩|⟨r1,r2⟩
    .obtain rfl:=rT hg hl q2 r2 (aH.2 ⟨b,q3⟩) (aH.2 ⟨b',r3⟩);rw[q2]at r2;cases r2;rw[q3]at r3;cases r3;rw[q4,r4]
    .exact absurd (aH.2 ⟨b,q3⟩) (r1 j e (by simpa using hV q2) q2)
    .exact absurd (aH.2 ⟨b',r3⟩) (q1 j' e' (hJ j' (hV r2)) r2)
    .rw[q2,r2]
 have done:∀(listed:Array Bool) (a:Act) (w:World),(Ph1 listed a w\/Ph2 listed a w)->(∀j,j<ops.size->listed.getD j false=true)->Q .normal a w:=by
  intro listed a w xa hJ;have h2:Ph2 listed a w:=xa.elim (λh=>norm listed a w h λj hj=>hJ j (by omega)) (λh=>h);obtain⟨q,s,h1,h2,h3,h4,h5⟩:=h2;have hq:q=ops.size:=by
   rcases Nat.lt_or_ge q ops.size with hS|yK
   .have:=hJ q hS;rw[h3 q]at this;simp at this
   .omega
  rw[List.drop_of_length_le (by simp;omega)]at h4;exact hQ s a w h4 h5
 have prog:∀(listed:Array Bool),listed.size=ops.size->Region.ready .any ops listed=[]-> ∀j,j<ops.size->listed.getD j false=true:=by
  intro listed hN hr j;induction j using Nat.strongRecOn with
  |_ j ih =>
   intro hj;cases hlj:listed.getD j false with
   |true=>rfl
   |false =>
    have ho:ops.toList[j]? =some ops[j]:=by rw[bx];exact Array.getElem?_eq_getElem hj
    have:j∈Region.ready .any ops listed:=(ga hN).2 ⟨ops[j],ho,hlj,λe he=>by
     have:=(hp.Kv j _ ho e he).1;exact ih e this (by omega)⟩
    rw[hr]at this;cases this
 have kI : ∀ (listed : Array Bool) (s : St) (a : Act) (w : World) (i : Nat) (o : Oper), At st res (fun j => listed.getD j false) s -> Sim cx E s a w -> (∀ j, listed.getD j false = true -> ∀ x ∈ cl j, listed.getD x false = true) -> i < dY cx.chg ops.toList -> ops.toList[i]? = some o ->
     listed.getD i false=false->(∀x∈cl i,listed.getD x false=true)-> ∃e,res[i]? =some e/\e.1=o.dst/\((Region.wanted o (yielded ops a.tmps)=true/\ ∀Q0,o.wp cx.P a w (λa' w' =>Sim cx E (s.put e.1 e.2.1 e.2.2) a' w') Q0) \/
      (Region.wanted o (yielded ops a.tmps)=false/\Sim cx E (s.put e.1 e.2.1 e.2.2) (a.put o.dst Go.undef) w)):=by
  intro listed s a w i o kb hM hI xg ho kl ke;obtain⟨o2,e,g1,g2,hd,gd,gf,gm,xc⟩:=hg i xg;rw[ho]at g1;cases g1;obtain⟨xF,yv,yw⟩:=agree hp hg hl kb hI xg ho kl ke;have kg:∀x,o.dst=some x->x<E.nt:=by rw[hn];exact dy hd
  refine⟨e,g2,gd,?_⟩;rcases xc with ⟨gw,xb⟩|⟨gw,gv,gb⟩
  .refine .inl ⟨gG gw xF hM,λQ0=>?_⟩
   let R:St:=⟨(looks ops.toList o).map λt=>(t,(gn (res.take i) st).get t),uz cx (gn (res.take i) st) o⟩
   have kE:∀t,R.get t=if t∈looks ops.toList o then(gn (res.take i) st).get t else .undef:=λt=>by
    show(match find ((looks ops.toList o).map λt=>(t,(gn (res.take i) st).get t)) t with|some v=>v|none=> .undef)=_
    rw[vN];split <;> simp_all
   have xt:=xb R (λx hx=>by
    cases x with
    |tmp t =>
     show(gn (res.take i) st).get t=R.get t
     rw[kE,if_pos];unfold looks;exact List.mem_append.2 (.inl (List.mem_filterMap.2 ⟨.tmp t,hx,rfl⟩))
    |const v=>rfl
    |global g=>rfl
    |func f=>rfl) (λhr=>(Lm hr).symm) (λt x he z hz=>Ll he hz)
   have hle:R.le s:=⟨λt=>by
    rw[kE];split
    .rename_i ht;exact .inr (xF t ht)
    .exact .inl rfl,λx b hb=>by
    obtain⟨yi,xd⟩:=Lk (o:=o) hb;rcases xd with hr|⟨t,y,he,hz⟩
    .exact yv hr x b yi
    .refine yw x b (Oj hM hz λt' yY =>xF t' ?_) yi;subst yY;unfold looks;exact List.mem_append.2 (.inl (List.mem_filterMap.2 ⟨.tmp t',by rw[he];simp[Op.operands],rfl⟩))⟩
   have yJ:∀x,live e.2.2 x-> ¬live s.heap x:=λx hx xV=>by
    obtain⟨zi,xA⟩:=lh hg hl xg g2 hx;rcases kb.heap x with ⟨j,e',b,r1,r2,r3,_⟩|⟨_,r2⟩
    .have:=rT hg hl g2 r2 hx (aH.2 ⟨b,r3⟩);subst this;rw[kl]at r1;cases r1
    .unfold live at xV xA;rw[r2]at xV;exact xA xV
   have:=xt.1 E s a w Q0 hle kg yJ hM;rw[<- gd]at this;exact this
  .refine .inr ⟨gG gw xF hM,?_⟩;have yV:=gA (d:=o.dst) kg hM;rw[gd,gv,gb];exact yV
 have key : ∀ (fuel : Nat) (listed : Array Bool) (a : Act) (w : World), listed.size = ops.size -> ((List.range ops.size).filter fun j => !listed.getD j false).length <= fuel -> (∀ j, listed.getD j false = true -> ∀ x ∈ cl j, listed.getD x false = true) ->
     (Ph1 listed a w\/Ph2 listed a w)->wpAny cx.P .any ops Q fuel listed a w:=by
  intro fuel;induction fuel with
  |zero =>
   intro listed a w hN kQ hI xa;have hJ:∀j,j<ops.size->listed.getD j false=true:=λj hj=>by
    cases h:listed.getD j false with
    |true=>rfl
    |false =>
     have:j∈(List.range ops.size).filter λj=> !listed.getD j false:=List.mem_filter.2 ⟨List.mem_range.2 hj,by simp[h]⟩
     have:=List.length_pos_of_mem this;omega
   refine⟨?_,done listed a w xa hJ⟩;rw[List.eq_nil_iff_forall_not_mem];intro i hi;obtain⟨o,ho,h1,_⟩:=(ga hN).1 hi;have:i<ops.size:=by have:=(aB.1 ho).1;simpa using this
   rw[hJ i this]at h1;cases h1
  |succ fuel ih =>
   intro listed a w hN kQ hI xa;by_cases kG:Ph1 listed a w/\ ∃x ox,x<dY cx.chg ops.toList/\OQ ops.toList (cl x) x/\ops.toList[x]? =some ox/\listed.getD x false=false/\ ∀e∈fE ox,listed.getD e false=true
   .obtain⟨⟨s,h1,kb,hM⟩,x,ox,zd,hL,hW,yd,ye⟩:=kG;have kP:∀y∈cl x,listed.getD y false=true:=λy hy=>by
     obtain⟨_,e,he,hh⟩:=hp.least x ox hW y hy;rcases hh with rfl|hh
     .exact ye e he
     .exact hI e (ye e he) y hh
    have yf:x<ops.size:=by omega
    have hE:∀j,(listed.setIfInBounds x true).getD j false=if j=x then true else listed.getD j false:=λj=>getSet listed x j (by omega)
    obtain⟨e,g2,gd,xc⟩:=kI listed s a w x ox kb hM hI zd hW yd kP;obtain⟨yu,xu,hS⟩:=hL.op;rw[hW]at xu;cases xu;have xY:ops[x]? =some ox:=by rw[<- bx];exact hW
    obtain⟨v,hy,yX⟩:∃v,Yields cx.P ops ox v a/\Sim cx E (s.put e.1 e.2.1 e.2.2) (a.put ox.dst v) w:=by
     rcases xc with ⟨gw,xb⟩|⟨gw,gs⟩
     .obtain⟨z,ze,zf⟩:=HD hS (xb λ_ _ _=>False);exact⟨z,.inl ⟨gw,ze⟩,zf⟩
     .exact⟨_,.inr ⟨gw,rfl⟩,gs⟩
    refine wpAny_first (v:=v) xY (λj o cs b ho=>hL.sel o (Array.mem_toList_iff.2 (Array.mem_of_getElem? ho)) cs b) (λc a w hh=>absurd hh (yh c _ w)) fuel listed a w
     (λj oj hj kc xD xW=>by
      have yM:j ∉ cl x:=λhm=>by
       have h1:=kP j hm;simp only[bM]at h1 xD;cases hh:listed[j]? with
       |none=>rw[hh]at h1;cases h1
       |some b=>rw[hh]at h1 xD;simp at h1 xD;rw[h1]at xD;cases xD
      have:=hL.free ox j oj hW (by rw[bx];exact hj) kc yM xW;simpa using this) ((ga hN).2 ⟨ox,hW,yd,ye⟩) hy ?_
    refine ih _ _ _ (by simp [hN]) ?_ ?_ (.inl ⟨_, fun j hj => by rw [hE, if_neg (by omega)]; exact h1 j hj, kb.step g2 (fun j => by
        show(listed.setIfInBounds x true).getD j false=true ↔ _
        rw[hE];split
        .simp_all
        .simp_all),yX⟩)
    .have:=zT (p:=λj=> !listed.getD j false) (p' :=λj=> !(listed.setIfInBounds x true).getD j false) (λj hj=>by
      rw[hE]at hj;split at hj
      .simp at hj
      .exact hj) (i:=x) (by simp only[yd];rfl) (by rw[hE];simp) (List.mem_range.2 yf)
     omega
    .intro j hj y hy;rw[hE];split
     .rfl
     .rw[hE]at hj;split at hj
      .rename_i e;subst e;exact kP y hy
      .exact hI j hj y hy
   refine⟨λhr=>done listed a w xa (prog listed hN hr),λi hi=>?_⟩;obtain⟨o,ho,kl,hU⟩:=(ga hN).1 hi;have xh:i<ops.size:=by have:=(aB.1 ho).1;simpa using this
   have kH :ops[i]? =some o:=by rw[<- bx];exact ho
   have ke:∀x∈cl i,listed.getD x false=true:=λx hx=>by
    obtain⟨_,e,he,hh⟩:=hp.least i o ho x hx;rcases hh with rfl|hh
    .exact hU e he
    .exact hI e (hU e he) x hh
   have hE:∀j,(listed.setIfInBounds i true).getD j false=if j=i then true else listed.getD j false:=λj=>getSet listed i j (by omega)
   have kz :(listed.setIfInBounds i true).size=ops.size:=by simp[hN]
   have kf :((List.range ops.size).filter λj=> !(listed.setIfInBounds i true).getD j false).length<=fuel:=by
    have:=zT (p:=λj=> !listed.getD j false) (p' :=λj=> !(listed.setIfInBounds i true).getD j false) (λj hj=>by
     rw[hE]at hj;split at hj
     .simp at hj
     .exact hj) (i:=i) (by simp only[kl];rfl) (by rw[hE];simp) (List.mem_range.2 xh)
    omega
   have ks :∀j,(listed.setIfInBounds i true).getD j false=true-> ∀x∈cl j,(listed.setIfInBounds i true).getD x false=true:=λj hj x hx=>by
    rw[hE];split
    .rfl
    .rw[hE]at hj;split at hj
     .rename_i e;subst e;exact ke x hx
     .exact hI j hj x hx
   unfold wpOp;rw[kH];dsimp only;have xZ :(Ph1 listed a w/\ ∃j,j<dY cx.chg ops.toList/\listed.getD j false=false)\/Ph2 listed a w:=by
    rcases xa with h|h
    .by_cases hex:∃j,j<dY cx.chg ops.toList/\listed.getD j false=false
     .exact .inl ⟨h,hex⟩
     .exact .inr (norm listed a w h λj hj=>by
       cases hh:listed.getD j false with
       |true=>rfl
       |false=>exact absurd ⟨j,hj,hh⟩ hex)
    .exact .inr h
   rcases xZ with ⟨⟨s,h1,kb,hM⟩,jx,xR,xj⟩|⟨q,s,h1,h2,h3,h4,h5⟩
   .have xg:i<dY cx.chg ops.toList:=by
     rcases Nat.lt_or_ge i (dY cx.chg ops.toList)with h|h
     .exact h
     .rcases hp.tail i o ho h jx (by omega)with ht|⟨ht1,ht2,ht3⟩
      .have:=ke jx ht;rw[xj]at this;cases this
      .obtain⟨ox,hW,_⟩:=ht2.op;exact absurd ⟨⟨s,h1,kb,hM⟩,jx,ox,xR,ht2,hW,xj,λe he=>ke e (ht3 ox hW e he)⟩ kG
    obtain⟨e,g2,gd,xc⟩:=kI listed s a w i o kb hM hI xg ho kl ke;have kh:∀{a' :Act} {w' :World},Sim cx E (s.put e.1 e.2.1 e.2.2) a' w' ->wpAny cx.P .any ops Q fuel (listed.setIfInBounds i true) a' w' :=λhR =>
     ih _ _ _ kz kf ks (.inl ⟨_,λj hj=>by rw[hE,if_neg (by omega)];exact h1 j hj,kb.step g2 (λj=>by
      show(listed.setIfInBounds i true).getD j false=true ↔ _
      rw[hE];split
      .simp_all
      .simp_all),hR⟩)
    rcases xc with ⟨gw,xb⟩|⟨gw,gs⟩
    .rw[gw,if_pos rfl];exact .inl (Oper.wp_mono (λa' w' hR =>kh hR) (xb Q))
    .rw[gw];simp only[fR,if_false];exact kh gs
   .have yL:i=q:=by
     have yK:q<=i:=by
      rcases Nat.lt_or_ge i q with h|h
      .rw[h3 i]at kl;simp at kl;omega
      .exact h
     rcases Nat.lt_or_ge q i with h|h
     .rcases hp.tail i o ho (by omega) q h with ht|⟨ht1,_⟩
      .have:=ke q ht;rw[h3 q]at this;simp at this
      .omega
     .omega
    subst yL;have ku:ops.toList.drop i=o::ops.toList.drop (i+1):=by
     rw[List.drop_eq_getElem_cons (by simpa using xh)]
     congr 1
     exact(aB.1 ho).2
    rw[ku]at h4;simp only[pH]at h4;have kh:∀{s' :St} {a' :Act} {w' :World},pH cx nt true ops.toList (ops.toList.drop (i+1)) k s' ->Sim cx E s' a' w' ->wpAny cx.P .any ops Q fuel (listed.setIfInBounds i true) a' w' :=λhk hR =>
     ih _ _ _ kz kf ks (.inr ⟨i+1,_,by omega,by omega,λj=>by
      rw[hE,h3 j];split
      .rename_i e;subst e;simp
      .rename_i e;simp;omega,hk,hR⟩)
    rcases nh h4 h5 with ⟨hw,h4⟩|⟨hw,h4⟩
    .rw[if_pos hw];obtain⟨st1,k1,k2⟩:=ib hT h4;exact .inl (Oper.wp_mono (λa' w' hR =>kh k2 hR) (k1 E a w Q hn h5))
    .rw[if_neg (by simp[hw])];split at h4
     .rename_i hd;exact kh h4 (gA (by rw[hn];exact dy hd) h5)
     .exact h4.elim
 refine key ops.size _ a _ (by simp) ?_ ?_ (.inl ⟨st,?_,?_,xx⟩)
 .refine Nat.le_trans (List.length_filter_le _ _) (by simp)
 .intro j hj;simp[bM,Array.getElem?_replicate]at hj;split at hj <;> simp at hj
 .intro j _;simp[bM,Array.getElem?_replicate];split <;> rfl
 .refine⟨λt=> .inr ⟨λj e hj=>?_,rfl⟩,λs=> .inr ⟨λj e hj=>?_,rfl⟩⟩
  .simp[bM,Array.getElem?_replicate]at hj;split at hj <;> simp at hj
  .simp[bM,Array.getElem?_replicate]at hj;split at hj <;> simp at hj
theorem Fe{cx:Cx}{nt:Nat}(hT:bD cx)(hm:cx.P.follows .mixedOrders=true){id:Nat}{ops:Array Oper}{E:Env}(hn:E.nt=nt){Q:Exit->Act->World->Prop}{k:St->Prop}{st:St}{a:Act}{w:World}(h:Ku cx nt ops.toList k st)(hs:Sim cx E st a w)
 (hQ:∀st' a' w',k st' ->Sim cx E st' a' w' ->Q .normal a' w'):(Code.region id ops true).wp cx.P Q a w :=
 wp_mono (Q:=AF Q) (wp_region_any hm (MR hT hn h hs hQ)) (λe a w hq=>by cases e <;> first|exact hq|exact hq.elim)
def Er(P:Nat->Prop):List Nat->Prop
 |[]=>True
 |[i]=>P i
 |i::t=>P i/\Er P t
theorem qy{P:Nat->Prop}:∀{l:List Nat},Er P l-> ∀i∈l,P i
 |[],_,i,hi=>by cases hi
 |[x],h,i,hi=>by simp at hi;subst hi;exact h
 |x::y::t,h,i,hi=>by
  rcases List.mem_cons.1 hi with rfl|hi
  .exact h.1
  .exact qy h.2 i hi
def Kg(ops:List Oper)(done:List Nat)(i:Nat):Bool :=
 match dg i done with
 |true=>false
 |false=>(match ops[i]? with|some o=>(fE o).all λe=>dg e done|none=>false)
def ig(ops:List Oper)(done:List Nat):List Nat:=(List.range ops.length).filter (Kg ops done)
def pt(cx:Cx)(nt:Nat)(ops:List Oper)(k:St->Prop):Nat->List Nat->St->Prop
 |0,_,_=>False
 |f+1,done,st=>(match ig ops done with
  |[]=>k st
  |i::t=>Er (λi=>(match ops[i]? with
   |some o=>iW ops st o (jK cx nt false o st λst' =>pt cx nt ops k f (i::done) st') (match dq nt o.dst with|true=>pt cx nt ops k f (i::done) (st.put o.dst (.tuple []) [])|false=>False)
   |none=>False)) (i::t))
theorem NG{i j:Nat}{l:List Nat}:dg j (i::l)=(if j=i then true else dg j l):=by
 simp only[dg];by_cases h:j=i
 .subst h;simp
 .have:Nat.beq j i=false:=by rw[<- Bool.not_eq_true];exact λe=>h (bd e)
  rw[this,if_neg h]
theorem Pc{cx:Cx}{nt:Nat}(hT:bD cx){ops:Array Oper}{E:Env}(hn:E.nt=nt){Q:Exit->Act->World->Prop}{k:St->Prop}{st:St}{a:Act}{w:World}(h:pt cx nt ops.toList k (ops.size+1) [] st)(hs:Sim cx E st a w)
 (hQ:∀st' a' w',k st' ->Sim cx E st' a' w' ->Q .normal a' w'):wpAny cx.P .any ops Q ops.size (Array.replicate ops.size false) a {w with drawn:=w.drawn+1}:=by
 have xx:Sim cx E st a {w with drawn:=w.drawn+1}:=by
  obtain⟨σ,hs⟩:=hs;have hk:bw w {w with drawn:=w.drawn+1} (Own E.O (live st.heap) σ) (Own E.O (live st.heap) σ):=⟨Nat.le_refl _,λ_ _ _=>rfl,λ_ h _=>h⟩
  have km:∀s,live st.heap s->live st.heap s/\σ s=σ s:=λs h=>⟨h,rfl⟩
  exact⟨σ,⟨hs.frame.os,hs.frame.tape,hs.frame.output,hs.frame.size,hs.frame.block⟩,hs.new,hs.apart,hs.defers,hs.nt,λt=>(hs.aV t).mono hk km,
   ⟨λs b hb=>cZ.mono hk km (aH.2 ⟨b,hb⟩) (λ_ _=>rfl) (hs.holds.blk s b hb),hs.holds.inj⟩,hs.fI,hs.dQ,hs.fix⟩
 have key : ∀ (fuel : Nat) (done : List Nat) (listed : Array Bool) (st : St) (a : Act) (w : World), listed.size = ops.size -> (∀ j, listed.getD j false = dg j done) -> pt cx nt ops.toList k (fuel + 1) done st -> Sim cx E st a w ->
     wpAny cx.P .any ops Q fuel listed a w:=by
  intro fuel;have kR:∀(done:List Nat) (listed:Array Bool),listed.size=ops.size->(∀j,listed.getD j false=dg j done)-> ∀i,i∈Region.ready .any ops listed ↔ i∈ig ops.toList done:=by
   intro done listed hN hd i;rw[ga hN];unfold ig Kg;simp only[List.mem_filter,List.mem_range];constructor
   .rintro⟨o,ho,h1,h2⟩;refine⟨(aB.1 ho).1,?_⟩;rw[hd]at h1;rw[h1,ho];simp only[aI];intro e he;rw[<- hd];exact h2 e he
   .rintro⟨hS,h⟩;split at h
    .cases h
    .rename_i hm;split at h
     .rename_i o ho;simp only[aI]at h;exact⟨o,ho,by rw[hd];exact hm,λe he=>by rw[hd];exact h e he⟩
     .cases h
  have stop:∀(done:List Nat) (listed:Array Bool) (f:Nat) (st:St) (a:Act) (w:World),listed.size=ops.size->(∀j,listed.getD j false=dg j done)->pt cx nt ops.toList k (f+1) done st->Sim cx E st a w->Region.ready .any ops listed=[]->Q .normal a w:=by
   intro done listed f st a w hN hd hk hs hr;have hY:ig ops.toList done=[]:=by
    rw[List.eq_nil_iff_forall_not_mem];intro i hi;have:=(kR done listed hN hd i).2 hi;rw[hr]at this;cases this
   simp only[pt,hY]at hk;exact hQ st a w hk hs
  induction fuel with
  |zero =>
   intro done listed st a w hN hd hk hs;have hY:Region.ready .any ops listed=[]:=by
    rw[List.eq_nil_iff_forall_not_mem];intro i hi;have ko :=(kR done listed hN hd i).1 hi;simp only[pt]at hk;split at hk
    .rename_i h;rw[h]at ko;cases ko
    .rename_i x t h;have:=qy hk x (by simp);split at this
     .rename_i o ho;rcases nh this hs with ⟨_,hy⟩|⟨_,hy⟩
      .obtain⟨st1,_,h2⟩:=ib hT hy;exact h2
      .split at hy <;> exact hy
     .exact this
   exact⟨hY,stop done listed 0 st a w hN hd hk hs hY⟩
  |succ fuel ih =>
   intro done listed st a w hN hd hk hs;refine⟨λhr=>stop done listed (fuel+1) st a w hN hd hk hs hr,λi hi=>?_⟩;have ko :=(kR done listed hN hd i).1 hi;obtain⟨o,ho,kl,_⟩:=(ga hN).1 hi;have xh:i<ops.size:=by have:=(aB.1 ho).1;simpa using this
   have kH :ops[i]? =some o:=by rw[<- bx];exact ho
   have yk :∀j,(listed.setIfInBounds i true).getD j false=dg j (i::done):=λj=>by
    rw[NG, <- hd];simp only[bM];by_cases e:j=i
    .subst e;simp[show j<listed.size by omega]
    .rw[if_neg e,Array.getElem?_setIfInBounds_ne (λh=>e h.symm)]
   have kA:iW ops.toList st o (jK cx nt false o st λst' =>pt cx nt ops.toList k (fuel+1) (i::done) st') (match dq nt o.dst with|true=>pt cx nt ops.toList k (fuel+1) (i::done) (st.put o.dst (.tuple []) [])|false=>False):=by
    rw[pt]at hk;split at hk
    .rename_i h;rw[h]at ko;cases ko
    .rename_i x t h;rw[h]at ko;have:=qy hk i ko;rw[ho]at this;exact this
   unfold wpOp;rw[kH];dsimp only;rcases nh kA hs with ⟨hw,hy⟩|⟨hw,hy⟩
   .rw[if_pos hw];obtain⟨st1,k1,k2⟩:=ib hT hy;exact .inl (Oper.wp_mono (λa' w' hR =>ih _ _ _ _ _ (by simp[hN]) yk k2 hR) (k1 E a w Q hn hs))
   .rw[if_neg (by simp[hw])];split at hy
    .rename_i xN;exact ih _ _ _ _ _ (by simp[hN]) yk hy (gA (by rw[hn];exact dy xN) hs)
    .exact hy.elim
 refine key ops.size [] _ st a _ (by simp) (λj=>?_) h xx;simp[bM,Array.getElem?_replicate,dg];split <;> rfl
theorem IN{cx:Cx}{nt:Nat}(hT:bD cx)(hm:cx.P.follows .mixedOrders=true){id:Nat}{ops:Array Oper}{E:Env}(hn:E.nt=nt){Q:Exit->Act->World->Prop}{k:St->Prop}{st:St}{a:Act}{w:World}(h:pt cx nt ops.toList k (ops.size+1) [] st)(hs:Sim cx E st a w)
 (hQ:∀st' a' w',k st' ->Sim cx E st' a' w' ->Q .normal a' w'):(Code.region id ops true).wp cx.P Q a w:=wp_region_any hm (Pc hT hn h hs hQ)
def DZ:AV->Option Nat
 | .ptr s _=>some s
 | .dm s _ _ _=>some s
 | .tl s _ _=>some s
 | .own s=>some s
 | .omap s=>some s
 |_=>none
theorem Ra{v:AV}{s:Nat}(h:kT v=some s):DZ v=some s:=by
 cases v <;> simp[kT]at h <;> exact congrArg some h
def tg:Op->Option Operand
 | .load _ x=>some x
 | .indexAddr _ x _=>some x
 | .lookup _ x _ _=>some x
 | .call c=>(match c.args.toList with|x::_=>some x|[]=>none)
 |_=>none
theorem AG{cx:Cx}{st st' :St}{d:Option Nat}{ty:TypeId}{op:Op}{k:KK}(hp:lR op=true)(h1:∀x∈op.operands.toList,st.ev cx x=st'.ev cx x)
 (h3:∀x,tg op=some x-> ∀s,DZ (st.ev cx x)=some s->find st'.heap s=find st.heap s):opK cx d ty st op k=opK cx d ty st' op k:=by
 have xK:lV op=false->opK cx d ty st op k=opK cx d ty st' op k:=λhr =>
  CR h1 (λe=>by rw[hr]at e;cases e) (λt x e s hs=>by subst e;exact h3 x rfl s (Ra hs))
 cases op <;> first|(exact xK rfl)|(cases hp;done)|skip
 case indexAddr t x i =>
  simp only[Op.operands]at h1;simp only[opK];have h4:=h3 x rfl;have hx:st.ev cx x=st'.ev cx x:=h1 x (by simp);rw[hx]at h4 ⊢;rw[h1 i (by simp)];generalize st'.ev cx x=v at h4;unfold eo;cases v <;> first|rfl|(rename_i y;cases y <;> rfl)|(have h5:=h4 _ rfl;simp only[h5])
 case lookup t x i ok =>
  simp only[Op.operands]at h1;simp only[opK];have h4:=h3 x rfl;have hx:st.ev cx x=st'.ev cx x:=h1 x (by simp);rw[hx]at h4 ⊢;rw[h1 i (by simp)];generalize st'.ev cx x=v at h4;cases v with
  |omap s =>
   have h5:=h4 s rfl;have hm:mapOf st (.omap s)=mapOf st' (.omap s):=by simp only[mapOf,h5]
   unfold iI;rw[hm];cases mapOf st' (.omap s)with
   |some m=>rfl
   |none =>
    dsimp only;generalize st'.ev cx i=key;generalize cx.ty t=T;cases key with
    |d y=>cases y <;> first|rfl|(rcases T with _|⟨_,_,kd,_⟩ <;> first|rfl|(cases kd <;> first|rfl|(simp only[h5])))
    |_=>rfl
  |d y=>cases y <;> rfl
  |_=>rfl
 case call c =>
  obtain⟨kL,args,ts⟩:=c;cases kL with
  |value f=>cases hp
  |invoke r m=>cases hp
  |builtin b =>
   cases b <;> first|(cases hp;done)|skip
   simp only[opK,tP];have ea:∀x∈args.toList,st.ev cx x=st'.ev cx x:=λx hx=>h1 x (by simp[Op.operands,Call.operands];simpa using hx)
   simp only[tg]at h3;generalize args.toList=l at ea h3;generalize ts.toList=tl
   match l,tl with
   |[x],[t] =>
    have h4:=h3 x rfl;have ex:=ea x (by simp);rw[ex]at h4;simp only[ex];generalize st'.ev cx x=v at h4;unfold ln;cases v <;> first|rfl|(rename_i y;cases y <;> rfl)|(have h5:=h4 _ rfl;simp only[h5])
   |[],_=>rfl
   |[_],[]=>rfl
   |[_],_::_::_=>rfl
   |_::_::_,_=>rfl
def RR:Op->Bool
 | .select .. =>true
 |_=>false
def xp(ops:List Oper)(cl:List (List Nat))(x:Nat):Bool :=
 match ops[x]? with
 |some ox=>(match ox.dst with
  |some d=>(List.range ops.length).any λj=>(match ops[j]? with|some oj=>dg d (looks ops oj)&& !(dg x ((cl[j]?).getD []))|none=>false)
  |none=>false)
 |none=>false
def xe(ops:List Oper)(cl:List (List Nat))(i:Nat)(o:Oper):Bool :=
 let ci:=(cl[i]?).getD []
 (fE o).all (λe=>Nat.blt e i)&&ci.all (λx=>Nat.blt x i&&(fE o).any (λe=>Nat.beq e x||dg x ((cl[e]?).getD [])))&& !(RR o.op) &&
 (List.range ops.length).all λj=>(match ops[j]? with
  |some oj=>(match oj.dst with
   |some d=>(match dg d (looks ops o)with|true=>dg j ci||dg i ((cl[j]?).getD [])|false=>true)&&(Nat.beq i j||(match o.dst with|some d' => !(Nat.beq d d')|none=>true))
   |none=>true)
  |none=>false)
def tQ(ops:List Oper)(cl:List (List Nat)):Nat->List Oper->Bool
 |_,[]=>true
 |i,o::t=>xe ops cl i o&&tQ ops cl (i+1) t
def mj(ops:List Oper):Bool:=tQ ops (closure ops []) 0 ops
structure Clean(ops:List Oper)(cl:Nat->List Nat)(lt:Nat->Bool):Prop where
 Kv:∀(i:Nat) o,ops[i]? =some o-> ∀e∈fE o,e<i
 least:∀(i:Nat) o,ops[i]? =some o-> ∀x∈cl i,x<i/\ ∃e∈fE o,e=x\/x∈cl e
 sel:∀(i:Nat) o,ops[i]? =some o-> ∀cs b,o.op≠ .select cs b
 look:∀(i:Nat) o,ops[i]? =some o-> ∀(j:Nat) oj d,ops[j]? =some oj->oj.dst=some d->d∈looks ops o->j∈cl i\/(i∈cl j/\lt j=true)
 dst:∀(i:Nat) o,ops[i]? =some o-> ∀(j:Nat) oj d,ops[j]? =some oj->i≠j->oj.dst=some d->o.dst≠some d
theorem vn{ops:List Oper}{cl:List (List Nat)}:∀{l:List Oper} {i:Nat},tQ ops cl i l=true-> ∀(j:Nat) o,l[j]? =some o->xe ops cl (i+j) o=true
 |[],i,_,j,o,h=>by simp at h
 |x::t,i,hp,j,o,h=>by
  simp only[tQ,aU]at hp;cases j with
  |zero=>simp at h;subst h;exact hp.1
  |succ j=>simp at h;have:=vn hp.2 j o h;rwa [show i+1+j=i+(j+1) by omega]at this
theorem EK{ops:List Oper}(h:mj ops=true):Clean ops (λi=>((closure ops [])[i]?).getD []) (xp ops (closure ops [])):=by
 have key:∀(i:Nat) o,ops[i]? =some o->xe ops (closure ops []) i o=true:=λi o ho=>by
  have:=vn h i o ho;rwa [Nat.zero_add]at this
 refine⟨λi o ho e he=>?_,λi o ho x hx=>?_,λi o ho cs b e=>?_,λi o ho j oj d hj hd hm=>?_,λi o ho j oj d hj kc hd e=>?_⟩
 all_goals
  have hp:=key i o ho;simp only[xe,aU]at hp;obtain⟨⟨⟨h1,h2⟩,h3⟩,h4⟩:=hp
 .exact Nat.lt_of_succ_le (bB (aI.1 h1 e he))
 .have:=aI.1 h2 x hx;simp only[aU,List.any_eq_true,Bool.or_eq_true]at this;obtain⟨a,e,he,hh⟩:=this;exact⟨Nat.lt_of_succ_le (bB a),e,he,hh.imp bd dF.1⟩
 .rw[e]at h3;simp[RR]at h3
 .have:=aI.1 h4 j (List.mem_range.2 (aB.1 hj).1);simp only[hj,hd,dF.2 hm,aU,Bool.or_eq_true]at this;by_cases hc:dg j (((closure ops [])[i]?).getD [])=true
  .exact .inl (dF.1 hc)
  .refine .inr ⟨dF.1 (this.1.resolve_left hc),?_⟩;unfold xp;rw[hj];simp only[hd,List.any_eq_true,List.mem_range];exact⟨i,(aB.1 ho).1,by rw[ho];simp only[dF.2 hm,iS];simpa using hc⟩
 .have:=aI.1 h4 j (List.mem_range.2 (aB.1 hj).1);have kS:Nat.beq i j=false:=by rw[<- Bool.not_eq_true];exact λe=>kc (bd e)
  simp only[hj,hd,e,kS,aU]at this;simp at this
def jn(ops:List Oper):List Nat->Option Nat
 |[]=>none
 |i::t=>(match ops[i]? with|some o=>(match lR o.op with|true=>(match xp ops (closure ops []) i with|false=>some i|true=>jn ops t)|false=>jn ops t)|none=>jn ops t)
def viewAt(cx:Cx)(ops:List Oper)(st:St)(x:Nat):List AV×Option Blk :=
 match ops[x]? with
 |some o=>((looks ops o++o.dst.toList).map st.get,(match tg o.op with|some y=>(match DZ (st.ev cx y)with|some s=>find st.heap s|none=>none)|none=>none))
 |none=>([],none)
def xH(cx:Cx)(ops:List Oper)(st st1:St):List Nat->Prop->Prop
 |[],K=>K
 |x::t,K=>viewAt cx ops st1 x=viewAt cx ops st x/\xH cx ops st st1 t K
theorem zp{cx:Cx}{ops:List Oper}{st st1:St}{K:Prop}:∀{l:List Nat},xH cx ops st st1 l K->K/\ ∀x∈l,viewAt cx ops st1 x=viewAt cx ops st x
 |[],h=>⟨h,λx hx=>by cases hx⟩
 |y::t,h=>by
  obtain⟨h1,h2⟩:=zp (l:=t) h.2;refine⟨h1,λx hx=>?_⟩;rcases List.mem_cons.1 hx with rfl|hx
  .exact h.1
  .exact h2 x hx
def Ea(cx:Cx)(nt:Nat)(o:Oper)(st:St)(k:St->Prop):Prop :=
 match dq nt o.dst with
 |true=>opK cx o.dst o.type st o.op λv bs=>(match bs with|[]=>k (st.put o.dst v [])|_::_=>False)
 |false=>False
def tv(ops:List Oper)(i:Nat)(hA:List Nat):List Nat:=hA.filter λx=> !(dg x (((closure ops [])[i]?).getD []))
def kN(cx:Cx)(nt:Nat)(ops:List Oper)(k:St->Prop):Nat->List Nat->List Nat->St->Prop
 |0,_,_,_=>False
 |f+1,done,hA,st=>(match jn ops (ig ops done)with
  |some i=>(match ops[i]? with
   |some o=>iW ops st o (Ea cx nt o st λst' =>kN cx nt ops k f (i::done) (i::hA) st') (match dq nt o.dst with|true=>kN cx nt ops k f (i::done) (i::hA) (st.put o.dst (.tuple []) [])|false=>False)
   |none=>False)
  |none=>(match ig ops done with
   |[]=>k st
   |i::t=>Er (λi=>(match ops[i]? with
    |some o=>iW ops st o (jK cx nt false o st λst' =>xH cx ops st st' (tv ops i hA) (kN cx nt ops k f (i::done) hA st')) (match dq nt o.dst with|true=>kN cx nt ops k f (i::done) hA (st.put o.dst (.tuple []) [])|false=>False)
    |none=>False)) (i::t)))
def Agr(D:Nat->Prop)(p a:Act):Prop:=p.defers=a.defers/\p.tmps.size=a.tmps.size/\ ∀t,¬D t->p.tmps.getD t Go.undef=a.tmps.getD t Go.undef
theorem Agr.mono{D D' :Nat->Prop}{p a:Act}(h:Agr D p a)(hd:∀t,D t->D' t):Agr D' p a:=⟨h.1,h.2.1,λt ht=>h.2.2 t λe=>ht (hd t e)⟩
theorem yT(a:Act)(d t:Nat)(u:Value):(a.put (some d) u).tmps.getD t Go.undef=if d=t/\d<a.tmps.size then u else a.tmps.getD t Go.undef:=by
 simp only[Act.put,bM];by_cases h:d=t
 .subst h;by_cases hl:d<a.tmps.size
  .simp[hl]
  .simp[hl]
 .rw[Array.getElem?_setIfInBounds_ne h,if_neg (λe=>h e.1)]
theorem Agr.put{D:Nat->Prop}{p a:Act}(h:Agr D p a)(d:Option Nat)(u:Value):Agr (λt=>D t/\d≠some t) (p.put d u) (a.put d u):=by
 refine⟨by cases d <;> exact h.1,by cases d <;> simp[Act.put,h.2.1],λt ht=>?_⟩;cases d with
 |none=>exact h.2.2 t λe=>ht ⟨e,by simp⟩
 |some d =>
  rw[yT,yT,h.2.1];by_cases e:d=t/\d<a.tmps.size
  .rw[if_pos e,if_pos e]
  .rw[if_neg e,if_neg e];by_cases yl:d=t
   .subst yl;have hl:¬d<a.tmps.size:=λhl=>e ⟨rfl,hl⟩
    have yN :¬d<p.tmps.size:=by rw[h.2.1];exact hl
    simp[hl,yN]
   .exact h.2.2 t λe' =>ht ⟨e',λe=>yl (by simpa using e)⟩
theorem Agr.QQ{D:Nat->Prop}{p a:Act}(h:Agr D p a)(d:Option Nat)(u:Value):Agr (λt=>D t\/d=some t) (p.put d u) a:=by
 refine⟨by cases d <;> exact h.1,by cases d <;> simp[Act.put,h.2.1],λt ht=>?_⟩;cases d with
 |none=>exact h.2.2 t λe=>ht (.inl e)
 |some d =>
  rw[yT,if_neg (λe=>ht (.inr (by rw[e.1])))];exact h.2.2 t λe=>ht (.inl e)
theorem Agr.eval{D:Nat->Prop}{p a:Act}(h:Agr D p a){x:Operand}(hx:∀t,x= .tmp t-> ¬D t):p.eval x=a.eval x:=by
 cases x with
 |tmp t=>exact h.2.2 t (hx t rfl)
 |_=>rfl
theorem Agr.eq{D:Nat->Prop}{p a:Act}(h:Agr D p a)(hd:∀t,¬D t):p=a:=by
 obtain⟨tp,dp⟩:=p;obtain⟨ta,da⟩:=a;obtain⟨h1,h2,h3⟩:=h;simp only at h1 h2 h3;have:tp=ta:=by
  apply Array.ext h2;intro i hi ko;have:=h3 i (hd i);simpa [hi,ko] using this
 rw[h1,this]
theorem ui{ops:List Oper}{o:Oper}{t:Nat}(h:Operand.tmp t∈o.op.operands.toList):t∈looks ops o :=
 List.mem_append.2 (.inl (List.mem_filterMap.2 ⟨.tmp t,h,rfl⟩))
theorem Agr.exec{D:Nat->Prop}{p a:Act}(h:Agr D p a){ops:List Oper}{o:Oper}(kq:∀cs b,o.op≠ .select cs b)(hl:∀t∈looks ops o,¬D t):execOp p.eval o=execOp a.eval o :=
 execOp_congr o kq λx hx=>h.eval λt e=>hl t (ui (by subst e;simpa using hx))
theorem Agr.wanted{D:Nat->Prop}{p a:Act}(h:Agr D p a){ops:Array Oper}{o:Oper}(hl:∀t∈looks ops.toList o,¬D t):Region.wanted o (yielded ops p.tmps)=Region.wanted o (yielded ops a.tmps):=by
 unfold Region.wanted;cases hg:o.guard with
 |none=>rfl
 |some gw =>
  obtain⟨g,want⟩:=gw;have:yielded ops p.tmps g=yielded ops a.tmps g:=by
   unfold yielded;cases kD:ops[g]? with
   |none=>rfl
   |some og =>
    cases hd:og.dst with
    |none=>simp[kD,hd]
    |some d =>
     have hm:d∈looks ops.toList o:=by
      unfold looks;rw[hg];have:ops.toList[g]? =some og:=by rw[bx];exact kD
      simp[this,hd]
     have he:=h.2.2 d (hl d hm);have hs:p.tmps.size=a.tmps.size:=h.2.1;have xv:p.tmps[d]? =a.tmps[d]? :=by
      by_cases hS:d<a.tmps.size
      .have xm :d<p.tmps.size:=by rw[hs];exact hS
       rw[Array.getElem?_eq_getElem hS,Array.getElem?_eq_getElem xm];simpa [hS,xm] using he
      .rw[Array.getElem?_eq_none (show p.tmps.size<=d by rw[hs];exact Nat.le_of_not_lt hS),Array.getElem?_eq_none (Nat.le_of_not_lt hS)]
     simp[kD,hd,xv]
  simp only[this]
theorem UF{P:Program}{D:Nat->Prop}{p a:Act}(h:Agr D p a){ops:List Oper}{o:Oper}(kq:∀cs b,o.op≠ .select cs b)(hl:∀t∈looks ops o,¬D t){w:World}{K:Act->World->Prop}{Q:Exit->Act->World->Prop}
 (hw:o.wp P p w K λ_ _ _=>False):o.wp P a w (λa' w' => ∃p',K p' w' /\Agr (λt=>D t/\o.dst≠some t) p' a') Q:=by
 unfold Oper.wp at hw ⊢;rw[h.exec kq hl]at hw;generalize (execOp a.eval o).run P w=r at hw ⊢;cases r with
 |ok n w' =>
  cases n <;> simp only[Oper.upon]at hw ⊢
  case value u=>exact⟨_,hw,h.put _ _⟩
  case skip=>exact⟨_,hw,h.put _ _⟩
  case defer d =>
   refine⟨_,hw,?_⟩;have:Agr D {p with defers:=d::p.defers} {a with defers:=d::a.defers}:=⟨by simp[h.1],h.2.1,h.2.2⟩
   exact this.put _ _
  case enter f args =>
   refine Calls.mono hw λe zh he=>?_
   cases e with
   |returned u=>exact⟨_,he,h.put _ _⟩
   |panicked c=>exact he.elim
   |outgrown=>obtain⟨_,_,hf⟩:=he;exact hf.elim
  case row row args=>exact Rows.mono hw λu zh he=>⟨_,he,h.put _ _⟩
 |halt x w' =>
  cases x <;> simp only[Oper.upon]at hw ⊢
def qx(cx:Cx)(nt:Nat)(ops:List Oper)(st:St)(x:Nat):Prop :=
 ∃o v,ops[x]? =some o/\lR o.op=true/\dq nt o.dst=true/\(∀d,o.dst=some d->st.get d=v) /\
  ((gj ops st o true/\opK cx o.dst o.type st o.op (lF v []))\/(gj ops st o false/\v= .tuple []))
theorem oT{ops:List Oper}{st st1:St}{o:Oper}{b:Bool}(hl:∀t∈looks ops o,st1.get t=st.get t)(h:gj ops st o b):gj ops st1 o b:=by
 unfold gj at h ⊢;split
 .rename_i hg;rw[hg]at h;exact h
 .rename_i g want hg;rw[hg]at h;obtain⟨og,d,h1,h2,h3⟩:=h;have hm:d∈looks ops o:=by unfold looks;rw[hg];simp[h1,h2]
  exact⟨og,d,h1,h2,by rw[hl d hm];exact h3⟩
theorem qx.mono{cx:Cx}{nt:Nat}{ops:List Oper}{st st1:St}{x:Nat}(h:qx cx nt ops st x)(hl:∀o,ops[x]? =some o-> ∀t,t∈looks ops o\/o.dst=some t->st1.get t=st.get t)
 (hh:∀o,ops[x]? =some o-> ∀y,tg o.op=some y-> ∀s,DZ (st.ev cx y)=some s->find st1.heap s=find st.heap s):qx cx nt ops st1 x:=by
 obtain⟨o,v,ho,hp,hd,hv,kV⟩:=h;refine⟨o,v,ho,hp,hd,λd e=>(hl o ho d (.inr e)).trans (hv d e),?_⟩;rcases kV with ⟨hw,hk⟩|⟨hw,e⟩
 .refine .inl ⟨oT (λt ht=>hl o ho t (.inl ht)) hw,?_⟩
  rwa [<- AG (st:=st) hp (λy hy=>?_) (λy hy s hs=>hh o ho y hy s hs)]
  cases y with
  |tmp t=>exact(hl o ho t (.inl (ui hy))).symm
  |_=>rfl
 .exact .inr ⟨oT (λt ht=>hl o ho t (.inl ht)) hw,e⟩
theorem Qt{op:Op}{y:Operand}(h:tg op=some y):y∈op.operands.toList:=by
 cases op <;> simp[tg]at h
 case call c =>
  split at h
  .rename_i x t hx;cases h;simp only[Op.operands,Call.operands,Array.toList_append,List.mem_append];right;rw[hx];simp
  .cases h
 all_goals (subst h;simp[Op.operands])
theorem Dp{cx:Cx}{nt:Nat}{ops:List Oper}{st st1:St}{x:Nat}(h:qx cx nt ops st x)(hv:viewAt cx ops st1 x=viewAt cx ops st x):qx cx nt ops st1 x:=by
 have hs:∀o,ops[x]? =some o-> ∀t,t∈looks ops o\/o.dst=some t->st1.get t=st.get t:=λo ho t ht=>by
  unfold viewAt at hv;rw[ho]at hv;have h1:=congrArg Prod.fst hv;simp only at h1;have hm:t∈looks ops o++o.dst.toList:=List.mem_append.2 (ht.imp id λe=>by rw[e];simp);exact(List.map_inj_left.1 h1) t hm
 refine h.mono hs λo ho y hy s xB=>?_
 have yG:st1.ev cx y=st.ev cx y:=by
  cases y with
  |tmp t=>exact hs o ho t (.inl (ui (Qt hy)))
  |_=>rfl
 unfold viewAt at hv;rw[ho]at hv;have h2:=congrArg Prod.snd hv;simp only[hy,yG,xB]at h2;exact h2
theorem jS{ops:List Oper}:∀{l:List Nat} {i:Nat},jn ops l=some i->i∈l/\(∃o,ops[i]? =some o/\lR o.op=true)/\xp ops (closure ops []) i=false
 |[],i,h=>by cases h
 |j::t,i,h=>by
  simp only[jn]at h;split at h
  .rename_i o ho;split at h
   .rename_i hp;split at h
    .rename_i hw;cases h;exact⟨by simp,⟨o,ho,hp⟩,hw⟩
    .obtain⟨h1,h2⟩:=jS h;exact⟨by simp[h1],h2⟩
   .obtain⟨h1,h2⟩:=jS h;exact⟨by simp[h1],h2⟩
  .obtain⟨h1,h2⟩:=jS h;exact⟨by simp[h1],h2⟩
theorem jy{ops:List Oper}{done:List Nat}{i:Nat}:i∈ig ops done ↔ ∃o,ops[i]? =some o/\i ∉ done/\ ∀e∈fE o,e∈done:=by
 unfold ig Kg;simp only[List.mem_filter,List.mem_range];constructor
 .rintro⟨hS,h⟩;split at h
  .cases h
  .rename_i hm;split at h
   .rename_i o ho;exact⟨o,ho,λe=>(by rw[dF.2 e]at hm;cases hm),λe he=>dF.1 (aI.1 h e he)⟩
   .cases h
 .rintro⟨o,ho,hn,hb⟩;have hm:dg i done=false:=by rw[<- Bool.not_eq_true];exact λe=>hn (dF.1 e)
  refine⟨(aB.1 ho).1,?_⟩;rw[hm,ho];exact aI.2 λe he=>dF.2 (hb e he)
structure Inv(cx:Cx)(nt:Nat)(ops:Array Oper)(cl:Nat->List Nat)(lt:Nat->Bool)(E:Env)(listed:Nat->Bool)(done hA:List Nat)(st:St)(a:Act)(w:World):Prop where
 sub:∀j,listed j=true->j∈done
 act:∃p,Sim cx E st p w/\Agr (λt=> ∃x o,x∈done/\listed x=false/\ops.toList[x]? =some o/\o.dst=some t) p a
 re:∀x∈done,listed x=false->(x∈hA/\lt x=false)/\qx cx nt ops.toList st x
 lA:∀j∈done,∀x∈cl j,x∈done
 xi:∀j,listed j=true-> ∀x∈cl j,listed x=true
section
variable {cx:Cx} {nt:Nat} {ops:Array Oper} {cl:Nat->List Nat} {lt:Nat->Bool} {E:Env} {listed:Nat->Bool} {done hA:List Nat} {st:St} {a:Act} {w:World}
theorem qm(hc:Clean ops.toList cl lt){S:Nat->Prop}(hd:∀j,S j-> ∀x∈cl j,S x){i:Nat}{o:Oper}(ho:ops.toList[i]? =some o)(hb:∀e∈fE o,S e):∀x∈cl i,S x:=λx hx=>by
 obtain⟨_,e,he,hh⟩:=hc.least i o ho x hx;rcases hh with rfl|hh
 .exact hb e he
 .exact hd e (hb e he) x hh
theorem Inv.Jr(hc:Clean ops.toList cl lt)(h:Inv cx nt ops cl lt E listed done hA st a w){i:Nat}{o:Oper}(ho:ops.toList[i]? =some o)(ke:∀x∈cl i,listed x=true) :
 ∀t∈looks ops.toList o,¬ ∃x o,x∈done/\listed x=false/\ops.toList[x]? =some o/\o.dst=some t:=by
 rintro t ht ⟨x,ox,zc,hx,hW,hd⟩;rcases hc.look i o ho x ox t hW hd ht with hl|⟨_,hl⟩
 .have:=ke x hl;rw[hx]at this;cases this
 .have:=(h.re x zc hx).1.2;rw[this]at hl;cases hl
theorem uA(hc:Clean ops.toList cl lt)(hd:∀j∈done,∀x∈cl j,x∈done){i:Nat}{o:Oper}(ho:ops.toList[i]? =some o)(hi:i ∉ done){v:AV}{x:Nat}(hx:x∈done)(hl:lt i=false\/x ∉ cl i)(h:qx cx nt ops.toList st x):qx cx nt ops.toList (st.put o.dst v []) x:=by
 refine h.mono (λox hW t ht=>?_) (λox hW y hy s hs=>rfl);rw[St.fX,if_neg];intro e;rcases ht with ht|ht
 .rcases hc.look x ox hW i o t ho e ht with hk|⟨hk,hk2⟩
  .exact hi (hd x hx i hk)
  .rcases hl with hl|hl
   .rw[hl]at hk2;cases hk2
   .exact hl hk
 .exact hc.dst x ox hW i o t ho (λe=>hi (e ▸ hx)) e ht
theorem CT(hc:Clean ops.toList cl lt){i:Nat}{o:Oper}(ho:ops.toList[i]? =some o)(hp:lR o.op=true)(hd:dq nt o.dst=true){v:AV}
 (kV:(gj ops.toList st o true/\opK cx o.dst o.type st o.op (lF v []))\/(gj ops.toList st o false/\v= .tuple [])):qx cx nt ops.toList (st.put o.dst v []) i:=by
 have hl:∀t∈looks ops.toList o,(st.put o.dst v []).get t=st.get t:=λt ht=>by
  rw[St.fX,if_neg];intro e;have:=(hc.least i o ho i ((hc.look i o ho i o t ho e ht).elim id λh=>h.1)).1;omega
 refine⟨o,v,ho,hp,hd,λd e=>by rw[St.fX,if_pos e],?_⟩;rcases kV with ⟨hw,hk⟩|⟨hw,e⟩
 .refine .inl ⟨oT hl hw,?_⟩
  rwa [<- AG (st:=st) (st' :=st.put o.dst v []) hp (λy hy=>?_) (λy hy s hs=>rfl)]
  cases y with
  |tmp t=>exact(hl t (ui hy)).symm
  |_=>rfl
 .exact .inr ⟨oT hl hw,e⟩
end
theorem OH{cx:Cx}{nt:Nat}(hT:bD cx){ops:Array Oper}{E:Env}(hn:E.nt=nt){Q:Exit->Act->World->Prop}{k:St->Prop}{st:St}{a:Act}{w:World}(kj:mj ops.toList=true)
 (h:kN cx nt ops.toList k (ops.size+1) [] [] st) (hs:Sim cx E st a w) (hQ:∀st' a' w',k st' ->Sim cx E st' a' w' ->Q .normal a' w'):wpAny cx.P .any ops Q ops.size (Array.replicate ops.size false) a {w with drawn:=w.drawn+1}:=by
 have xx:Sim cx E st a {w with drawn:=w.drawn+1}:=by
  obtain⟨σ,hs⟩:=hs;have hk:bw w {w with drawn:=w.drawn+1} (Own E.O (live st.heap) σ) (Own E.O (live st.heap) σ):=⟨Nat.le_refl _,λ_ _ _=>rfl,λ_ h _=>h⟩
  have km:∀s,live st.heap s->live st.heap s/\σ s=σ s:=λs h=>⟨h,rfl⟩
  exact⟨σ,⟨hs.frame.os,hs.frame.tape,hs.frame.output,hs.frame.size,hs.frame.block⟩,hs.new,hs.apart,hs.defers,hs.nt,λt=>(hs.aV t).mono hk km,
   ⟨λs b hb=>cZ.mono hk km (aH.2 ⟨b,hb⟩) (λ_ _=>rfl) (hs.holds.blk s b hb),hs.holds.inj⟩,hs.fI,hs.dQ,hs.fix⟩
 have hc:=EK kj;generalize xM:(λi:Nat=>((closure ops.toList [])[i]?).getD [])=cl at hc;generalize xT:xp ops.toList (closure ops.toList [])=lt at hc;have kg:∀{o:Oper},dq nt o.dst=true-> ∀e,o.dst=some e->e<E.nt:=λh=>by rw[hn];exact dy h
 have prog:∀(listed:Array Bool),listed.size=ops.size->Region.ready .any ops listed=[]-> ∀j,j<ops.size->listed.getD j false=true:=by
  intro listed hN hr j;induction j using Nat.strongRecOn with
  |_ j ih =>
   intro hj;cases hlj:listed.getD j false with
   |true=>rfl
   |false =>
    have ho:ops.toList[j]? =some ops[j]:=by rw[bx];exact Array.getElem?_eq_getElem hj
    have:j∈Region.ready .any ops listed:=(ga hN).2 ⟨ops[j],ho,hlj,λe he=>by
     have:=hc.Kv j _ ho e he;exact ih e this (by omega)⟩
    rw[hr]at this;cases this
 have key : ∀ (fuel : Nat) (listed : Array Bool), listed.size = ops.size -> ((List.range ops.size).filter fun j => !listed.getD j false).length <= fuel -> ∀ (f : Nat) (done hA : List Nat) (st : St) (a : Act) (w : World), kN cx nt ops.toList k f done hA st ->
     Inv cx nt ops cl lt E (λj=>listed.getD j false) done hA st a w->wpAny cx.P .any ops Q fuel listed a w:=by
  intro fuel;induction fuel with
  |zero =>
   intro listed hN kQ;have hJ:∀j,j<ops.size->listed.getD j false=true:=λj hj=>by
    cases h:listed.getD j false with
    |true=>rfl
    |false =>
     have:j∈(List.range ops.size).filter λj=> !listed.getD j false:=List.mem_filter.2 ⟨List.mem_range.2 hj,by simp[h]⟩
     have:=List.length_pos_of_mem this;omega
   intro f;cases f with
   |zero=>intro done hA st a w h _;exact h.elim
   |succ f =>
    intro done hA st a w h hi;refine⟨?_,?_⟩
    .rw[List.eq_nil_iff_forall_not_mem];intro i hi;obtain⟨o,ho,h1,_⟩:=(ga hN).1 hi;have:i<ops.size:=by have:=(aB.1 ho).1;simpa using this
     rw[hJ i this]at h1;cases h1
    .have hY:ig ops.toList done=[]:=by
      rw[List.eq_nil_iff_forall_not_mem];intro i kU;obtain⟨o,ho,h1,_⟩:=jy.1 kU;exact h1 (hi.sub i (hJ i (by have:=(aB.1 ho).1;simpa using this)))
     simp only[kN,hY,jn]at h;obtain⟨p,hp,kr⟩:=hi.act;have xv:p=a:=kr.eq λt ⟨x,o,_,hx,ho,_⟩=>by
      have:=hJ x (by have:=(aB.1 ho).1;simpa using this);rw[this]at hx;cases hx
     exact hQ st a w h (xv ▸ hp)
  |succ fuel ih =>
   intro listed hN kQ f;induction f with
   |zero=>intro done hA st a w h _;exact h.elim
   |succ f zg =>
    intro done hA st a w h hi;rw[kN]at h;split at h
    . -- gone over at once
      rename_i i yI;obtain⟨kU,⟨o,ho,hp⟩,xU⟩:=jS yI;rw[xT]at xU;obtain⟨o',kH,yr,xI⟩:=jy.1 kU;rw[ho]at kH;cases kH;rw[ho]at h;dsimp only at h;have yP:listed.getD i false=false:=by
       cases hl:listed.getD i false with
       |false=>rfl
       |true=>exact absurd (hi.sub i hl) yr
      obtain⟨p,ky,kr⟩:=hi.act
      have next : ∀ {v : AV} {z : Value}, dq nt o.dst = true -> Sim cx E (st.put o.dst v []) (p.put o.dst z) w -> ((gj ops.toList st o true /\ opK cx o.dst o.type st o.op (lF v [])) \/ (gj ops.toList st o false /\ v = .tuple [])) ->
          kN cx nt ops.toList k f (i::done) (i::hA) (st.put o.dst v [])->wpAny cx.P .any ops Q (fuel+1) listed a w:=by
       intro v z hd hM kV hk;refine zg _ _ _ _ _ hk ⟨λj hj=>bC _ (hi.sub j hj),⟨_,hM,?_⟩,λx hx hX=>?_,λj hj x hx=>?_,hi.xi⟩
       .refine(kr.QQ o.dst z).mono λt ht=>?_
        rcases ht with ⟨x,ox,h1,h2,h3,h4⟩|e
        .exact⟨x,ox,bC _ h1,h2,h3,h4⟩
        .exact⟨i,o,List.mem_cons_self .., yP,ho,e⟩
       .rcases List.mem_cons.1 hx with rfl|hx
        .exact⟨⟨List.mem_cons_self .., xU⟩,CT hc ho hp hd kV⟩
        .exact⟨⟨bC _ (hi.re x hx hX).1.1,(hi.re x hx hX).1.2⟩,uA hc hi.lA ho yr hx (.inl xU) (hi.re x hx hX).2⟩
       .rcases List.mem_cons.1 hj with rfl|hj
        .exact bC _ (qm hc (S:=(· ∈done)) hi.lA ho xI x hx)
        .exact bC _ (hi.lA j hj x hx)
      rcases mN h with ⟨hw,h⟩|⟨hw,h⟩
      .unfold Ea at h;split at h
       .rename_i hd;obtain⟨v,bs,hk,_,hj⟩:=Cf h;split at hk
        .obtain⟨v',xG,xt,rfl,rfl⟩:=qR hT hj;obtain⟨_,kX⟩:=xt.2 hp;obtain⟨σ,km⟩:=ky;obtain⟨z,_,yb⟩:=kX E st σ p w (St.le.refl _) km;exact next hd ⟨σ,km.put (kg hd) yb⟩ (.inl ⟨hw,hj⟩) hk
        .exact hk.elim
       .exact h.elim
      .split at h
       .rename_i hd;exact next hd (gA (kg hd) ky) (.inr ⟨hw,rfl⟩) h
       .exact h.elim
    .rename_i xo;refine⟨λhr=>?_,λi kU=>?_⟩
     .have hJ:=prog listed hN hr;have hY:ig ops.toList done=[]:=by
       rw[List.eq_nil_iff_forall_not_mem];intro i kU;obtain⟨o,ho,h1,_⟩:=jy.1 kU;exact h1 (hi.sub i (hJ i (by have:=(aB.1 ho).1;simpa using this)))
      rw[hY]at h;obtain⟨p,hp,kr⟩:=hi.act;have xv:p=a:=kr.eq λt ⟨x,o,_,hx,ho,_⟩=>by
       have:=hJ x (by have:=(aB.1 ho).1;simpa using this);rw[this]at hx;cases hx
      exact hQ st a w h (xv ▸ hp)
     .obtain⟨o,ho,kl,hU⟩:=(ga hN).1 kU;have xh:i<ops.size:=by have:=(aB.1 ho).1;simpa using this
      have kH :ops[i]? =some o:=by rw[<- bx];exact ho
      have ke:∀x∈cl i,listed.getD x false=true:=qm hc (S:=λx=>listed.getD x false=true) hi.xi ho hU;have hE:∀j,(listed.setIfInBounds i true).getD j false=if j=i then true else listed.getD j false:=λj=>by
       simp only[bM];by_cases e:j=i
       .subst e;simp[show j<listed.size by omega]
       .rw[if_neg e,Array.getElem?_setIfInBounds_ne (λh=>e h.symm)]
      have kz :(listed.setIfInBounds i true).size=ops.size:=by simp[hN]
      have kf :((List.range ops.size).filter λj=> !(listed.setIfInBounds i true).getD j false).length<=fuel:=by
       have:=zT (p:=λj=> !listed.getD j false) (p' :=λj=> !(listed.setIfInBounds i true).getD j false) (λj hj=>by
        rw[hE]at hj;split at hj
        .simp at hj
        .exact hj) (i:=i) (by simp only[kl];rfl) (by rw[hE];simp) (List.mem_range.2 xh)
       omega
      have xS:=hi.Jr hc ho ke;have kq:=hc.sel i o ho;have kt:∀j,(listed.setIfInBounds i true).getD j false=true-> ∀x∈cl j,(listed.setIfInBounds i true).getD x false=true:=λj hj x hx=>by
       rw[hE];split
       .rfl
       .rw[hE]at hj;split at hj
        .rename_i e;subst e;exact ke x hx
        .exact hi.xi j hj x hx
      have hD : ∀ (dn : List Nat), (∀ x ∈ done, x ∈ dn) -> ∀ t, (∃ x o, x ∈ done /\ listed.getD x false = false /\ ops.toList[x]? = some o /\ o.dst = some t) /\ o.dst ≠ some t ->
          ∃x o,x∈dn/\(listed.setIfInBounds i true).getD x false=false/\ops.toList[x]? =some o/\o.dst=some t:=by
       rintro dn yF t ⟨⟨x,ox,h1,h2,h3,h4⟩,kc⟩;refine⟨x,ox,yF x h1,?_,h3,h4⟩;rw[hE,if_neg]
       .exact h2
       .intro e;subst e;rw[ho]at h3;cases h3;exact kc h4
      obtain⟨p,ky,kr⟩:=hi.act;have kn:=kr.wanted xS;unfold wpOp;rw[kH];dsimp only;by_cases hid:i∈done
      . -- it was gone over
        obtain⟨_,o2,v,hW,hp,hd,hv,kV⟩:=hi.re i hid kl;rw[ho]at hW;cases hW;have fin:∀{z:Value},Sim cx E (st.put o.dst v []) (p.put o.dst z) w->wpAny cx.P .any ops Q fuel (listed.setIfInBounds i true) (a.put o.dst z) w:=by
         intro z hM;have xO:Sim cx E st (p.put o.dst z) w:=hM.ext (λt=>by
          rw[St.fX];split
          .rename_i e;exact hv t e
          .rfl) (λs=>rfl)
         refine ih _ kz kf (f+1) done hA st _ w (by rw[kN,xo];exact h) ⟨λj hj=>?_,⟨_,xO,(kr.put o.dst z).mono (hD done λx hx=>hx)⟩,λx hx hX=>?_,hi.lA,kt⟩
         .rw[hE]at hj;split at hj
          .rename_i e;subst e;exact hid
          .exact hi.sub j hj
         .rw[hE]at hX;split at hX
          .cases hX
          .exact hi.re x hx hX
        rcases kV with ⟨hw,hk⟩|⟨hw,e⟩
        .have kY:=gG hw (λd _=>rfl) ky;rw[<- kn,kY,if_pos rfl];obtain⟨v',xG,xt,rfl,rfl⟩:=qR hT hk;obtain⟨_,kX⟩:=xt.2 hp;obtain⟨σ,km⟩:=ky;obtain⟨z,hz,yb⟩:=kX E st σ p w (St.le.refl _) km;rw[kr.exec kq xS]at hz;refine .inl ?_;simp only[Oper.wp,hz,Oper.upon];exact fin ⟨σ,km.put (kg hd) yb⟩
        .have kY:=gG hw (λd _=>rfl) ky;rw[<- kn,kY];simp only[fR,if_false];subst e;exact fin (gA (kg hd) ky)
      . -- it comes up
        have xI:∀e∈fE o,e∈done:=λe he=>hi.sub e (hU e he)
        have kp:i∈ig ops.toList done:=jy.2 ⟨o,ho,hid,xI⟩;have kA:iW ops.toList st o (jK cx nt false o st λst' =>xH cx ops.toList st st' (tv ops.toList i hA) (kN cx nt ops.toList k f (i::done) hA st')) (match dq nt o.dst with|true=>kN cx nt ops.toList k f (i::done) hA (st.put o.dst (.tuple []) [])|false=>False):=by
         split at h
         .rename_i hY;rw[hY]at kp;cases kp
         .rename_i x t hx;rw[hx]at kp;have:=qy h i kp;rw[ho]at this;exact this
        have fin : ∀ {st1 : St} {p' a' : Act} {w' : World}, kN cx nt ops.toList k f (i :: done) hA st1 -> Sim cx E st1 p' w' -> Agr (fun t => (∃ x o, x ∈ done /\ listed.getD x false = false /\ ops.toList[x]? = some o /\ o.dst = some t) /\ o.dst ≠ some t) p' a' ->
            (∀x∈done,listed.getD x false=false->(x∈hA/\lt x=false)/\qx cx nt ops.toList st1 x)->wpAny cx.P .any ops Q fuel (listed.setIfInBounds i true) a' w' :=by
         intro st1 p' a' w' hk hM kM ya;refine ih _ kz kf f _ _ _ _ _ hk ⟨λj hj=>?_,⟨_,hM,kM.mono (hD (i::done) λx hx=>bC _ hx)⟩,λx hx hX=>?_,λj hj x hx=>?_,kt⟩
         .rw[hE]at hj;split at hj
          .rename_i e;subst e;exact List.mem_cons_self ..
          .exact bC _ (hi.sub j hj)
         .rw[hE]at hX;split at hX
          .cases hX
          .rename_i kc;rcases List.mem_cons.1 hx with e|hx
           .exact absurd e kc
           .exact ya x hx hX
         .rcases List.mem_cons.1 hj with rfl|hj
          .exact bC _ (qm hc (S:=(· ∈done)) hi.lA ho xI x hx)
          .exact bC _ (hi.lA j hj x hx)
        rcases mN kA with ⟨hw,hy⟩|⟨hw,hy⟩
        .have kY:=gG hw (λd _=>rfl) ky;rw[<- kn,kY,if_pos rfl];obtain⟨st1,k1,k2⟩:=ib hT hy;obtain⟨k2,yW⟩:=zp k2;refine .inl (Oper.wp_mono (λa' w' =>?_) (UF kr kq xS (k1 E p w (λ_ _ _=>False) hn ky)));rintro⟨p',yc,kM⟩;refine fin k2 yc kM λx hx hX=>?_
         obtain⟨yt,ya⟩:=hi.re x hx hX;refine⟨yt,Dp ya (yW x ?_)⟩;unfold tv;refine List.mem_filter.2 ⟨yt.1,?_⟩;have ys:¬x∈cl i:=λhm=>by rw[ke x hm]at hX;cases hX
         rw[<- xM]at ys;simp only[Bool.not_eq_true', <- Bool.not_eq_true];exact λe=>ys (dF.1 e)
        .have kY:=gG hw (λd _=>rfl) ky;rw[<- kn,kY];simp only[fR,if_false];split at hy
         .rename_i hd;exact fin hy (gA (kg hd) ky) (kr.put o.dst Go.undef) λx hx hX=>⟨(hi.re x hx hX).1,uA hc hi.lA ho hid hx (.inr λhm=>by rw[ke x hm]at hX;cases hX) (hi.re x hx hX).2⟩
         .exact hy.elim
 refine key ops.size _ (by simp) ?_ (ops.size+1) [] [] st a _ h ⟨λj hj=>?_,⟨a,xx,rfl,rfl,λt _=>rfl⟩,λx hx=>(by cases hx),λj hj=>(by cases hj),λj hj=>?_⟩
 .refine Nat.le_trans (List.length_filter_le _ _) (by simp)
 .simp[bM,Array.getElem?_replicate]at hj;split at hj <;> simp at hj
 .simp[bM,Array.getElem?_replicate]at hj;split at hj <;> simp at hj
theorem GQ{cx:Cx}{nt:Nat}(hT:bD cx)(hm:cx.P.follows .mixedOrders=true){id:Nat}{ops:Array Oper}{E:Env}(hn:E.nt=nt){Q:Exit->Act->World->Prop}{k:St->Prop}{st:St}{a:Act}{w:World}(kj:mj ops.toList=true)
 (h:kN cx nt ops.toList k (ops.size+1) [] [] st) (hs:Sim cx E st a w) (hQ:∀st' a' w',k st' ->Sim cx E st' a' w' ->Q .normal a' w'):(Code.region id ops true).wp cx.P Q a w:=wp_region_any hm (OH hT hn kj h hs hQ)
theorem cu{a}{c:Prop}(h:c)(h1:mj a=true:=by kernel_rfl):mj a=true/\c:=⟨h1,h⟩
theorem cO{a1 a2 a3 a4 b1 b2 b3 b4}{c:Prop}(h:c)(h1:NQ.viewAt a1 a2 a3 a4=NQ.viewAt b1 b2 b3 b4:=by kernel_rfl):NQ.viewAt a1 a2 a3 a4=NQ.viewAt b1 b2 b3 b4/\c:=⟨h1,h⟩
end NQ
