/-
  Merged texts.
-/
import Derived.Test.YtodofogcincleaaGreatDoorQcpM
import Derived.Deep.LoopGhost
import Derived.Tactics
set_option linter.all false
namespace NQ
open Go Go.RowKit
def pT(c:Call):Option (Operand×Operand×TypeId) :=
 match c.callee,c.args.toList,c.argTypes.toList with
 | .builtin .append,[s,x],[t,t']=>(match Nat.beq t t' with|true=>some (s,x,t)|false=>none)
 |_,_,_=>none
def RL(cx:Cx)(st:St)(d:Option Nat)(ty:TypeId)(c:Call)(k:AV->St->Prop):Prop :=
 opK cx d ty (st.bw (si (bM cx st c.args.toList c.argTypes.toList))) (.call c) λv bs=>(match bs with|[]=>k v (st.bw (si (bM cx st c.args.toList c.argTypes.toList)))|_=>False)
def Nw(cx:Cx)(o:Oper)(st:St)(k:St->Prop):Prop :=
 match o.op with
 | .store t ad v=>ER cx st t (st.ev cx ad) (st.ev cx v) λhp=>k ⟨bd st.slots o.dst (.tuple []),hp⟩
 | .mapUpdate t m key v=>vO cx st t (st.ev cx m) (st.ev cx key) (st.ev cx v) λhp=>k ⟨bd st.slots o.dst (.tuple []),hp⟩
 | .insert t m key v=>vO cx st t (st.ev cx m) (st.ev cx key) (st.ev cx v) λhp=>k ⟨bd st.slots o.dst (.tuple []),hp⟩
 | .call c=>(match pT c with
  |some (s,x,t)=>zW cx st o.dst t (st.ev cx s) (iF cx t (st.ev cx x)) λv sl hp=>k ⟨bd sl o.dst v,hp⟩
  |none=>(match c.callee with
   | .value (.func f)=>(match Nat.beq (cx.chg f) 3 with
    |true=>ye cx st (st.ev cx (.func f)) (bM cx st c.args.toList c.argTypes.toList) λv st1=>k ⟨bd st1.slots o.dst v,st1.heap⟩
    |false=>(match Nat.beq (cx.chg f) 5 with
     |true=>RL cx st o.dst o.type c λv st1=>k ⟨bd st1.slots o.dst v,st1.heap⟩
     |false=>(match Nat.beq (cx.chg f) 6 with
      |true=>uJ cx st (st.ev cx (.func f)) (bM cx st c.args.toList c.argTypes.toList) λv st1=>k ⟨bd st1.slots o.dst v,st1.heap⟩
      |false=>Oq cx st o.dst (Nat.beq (cx.chg f) 1) f c.args.toList c.argTypes.toList λv st1=>k ⟨bd st1.slots o.dst v,st1.heap⟩)))
   |_=>False))
 |_=>False
def Cq(mt:Nat->Nat):Op->Bool
 | .store .. =>true
 | .mapUpdate .. =>true
 | .insert .. =>true
 | .call c=>(match c.callee with| .builtin .append=>true| .value (.func f)=>(match mt f with|0=>false|4=>false|_=>true)|_=>false)
 |_=>false
def pQ(h:List (Nat×Blk)):List (Nat×Blk)->Bool
 |[]=>true
 |(s,_)::t=>(match find h s with|none=>pQ h t|some _=>false)
def cM(nt:Nat):Option Nat->Bool
 |some d=>Nat.blt d nt
 |none=>true
def sU:Op->Bool
 | .call c=>(match c.callee with| .builtin _=>false|_=>true)
 |_=>false
def Nb(dr:Bool)(op:Op):List (Nat×Blk)->Bool
 |[]=>true
 |_=>(match dr with|true=> !sU op|false=>true)
def iX(cx:Cx)(nt:Nat)(dr:Bool)(o:Oper)(st:St)(k:St->Prop):Prop :=
 match cM nt o.dst,Cq cx.chg o.op with
 |true,true=>Nw cx o st k
 |true,false=>opK cx o.dst o.type st o.op λv bs=>(match Nb dr o.op bs,pQ st.heap bs with|true,true=>k (st.put o.dst v bs)|_,_=>False)
 |false,_=>False
def ia(ops:List Oper)(st:St)(o:Oper)(yes no:Prop):Prop :=
 match o.guard with
 |none=>yes
 |some (j,want)=>(match ops[j]? with
  |some oj=>(match oj.dst with
   |some d=>(match st.get d with
    | .d (.bool b)=>(match want with
     |true=>qv b yes no
     |false=>qv b no yes)
    | .tuple []=>no
    |_=>False)
   |none=>False)
  |none=>False)
def oP(cx:Cx)(nt:Nat)(dr:Bool)(ops:List Oper):List Oper->(St->Prop)->St->Prop
 |[],k,st=>k st
 |o::rest,k,st=>ia ops st o (iX cx nt dr o st λst' =>oP cx nt dr ops rest k st') (match cM nt o.dst with|true=>oP cx nt dr ops rest k (st.put o.dst (.tuple []) [])|false=>False)
section
variable {cx:Cx} {st:St} {nt:Nat}
theorem qG{h:List (Nat×Blk)}:∀{bs:List (Nat×Blk)},pQ h bs=true-> ∀s,live bs s-> ¬live h s
 |[],_,s,hl=>by simp[live,find]at hl
 |(x,b)::t,hf,s,hl=>by
  simp only[pQ]at hf;split at hf
  . rename_i hx;by_cases e:x=s
    . subst e;unfold live;rw[hx];simp
    . exact qG hf s (by unfold live at hl ⊢;rwa [aQ _ _ e]at hl)
  . cases hf
theorem cP{d:Option Nat}(h:cM nt d=true):∀e,d=some e->e<nt:=λe he=>by
 subst he;exact Nat.lt_of_lt_of_le (Nat.lt_of_succ_le (ag h)) (Nat.le_refl _)
theorem Qh(hT:ba cx){o:Oper}{k:St->Prop}(h:Nw cx o st k):∃st1,iu cx o st st1/\k st1:=by
 unfold Nw at h;split at h
 . rename_i ho;obtain⟨hp,h1,h2⟩:=OY hT ho h;exact⟨_,h1,h2⟩
 . rename_i ho;obtain⟨hp,h1,h2⟩:=Bq hT (.inl ho) h;exact⟨_,h1,h2⟩
 . rename_i ho;obtain⟨hp,h1,h2⟩:=Bq hT (.inr ho) h;exact⟨_,h1,h2⟩
 . rename_i c ho;split at h
   . rename_i s x t hc;have hc' :c={callee:= .builtin .append,args:= #[s,x],argTypes:= #[t,t]}:=by
      unfold pT at hc;split at hc
      . rename_i s' x' t1 t2 h1 h2 h3;split at hc
        . rename_i hb;cases hc;obtain rfl:t=t2:=aO hb;obtain⟨cc,ca,ct⟩:=c;simp only at h1 h2 h3;subst h1;have e1:ca= #[s,x]:=by rw[<- Array.toList_inj];exact h2
          have e2:ct= #[t,t]:=by rw[<- Array.toList_inj];exact h3
          rw[e1,e2]
        . cases hc
      . cases hc
     rw[hc']at ho;obtain⟨v,sl,hp,h1,h2⟩:=Ky hT ho h;exact⟨_,h1,h2⟩
   . split at h
     . rename_i f hcal;split at h
       . obtain⟨v,st1,h1,h2⟩:=CZ ho hcal h;exact⟨_,h1,h2⟩
       . split at h
         . unfold RL at h;rw[<- ho]at h;obtain⟨v,bs,h1,h2⟩:=qf hT h;cases bs with
           |nil=>exact⟨_,λE a w Q hd hs=>h1.1 E _ a w Q (St.le.refl _) hd (λs hl=>by simp[live,find]at hl) (hs.bw _),h2⟩
           |cons _ _=>exact h2.elim
         . split at h
           . obtain⟨v,st1,h1,h2⟩:=xx ho hcal h;exact⟨_,h1,h2⟩
           . obtain⟨v,st1,h1,h2⟩:=RX ho hcal h;exact⟨_,h1,h2⟩
     . exact h.elim
 . exact h.elim
theorem gr(hT:ba cx){dr:Bool}{o:Oper}{k:St->Prop}(h:iX cx nt dr o st k):∃st1,(∀(E:Env) a w (Q:Exit->Act->World->Prop),E.nt=nt->Sim cx E st a w->o.wp cx.P a w (λa' w' =>Sim cx E st1 a' w') Q)/\k st1:=by
 unfold iX at h;split at h
 . rename_i hd _;obtain⟨st1,h1,h2⟩:=Qh hT h;exact⟨st1,λE a w Q hn hs=>h1 E a w Q (by rw[hn];exact cP hd) hs,h2⟩
 . rename_i hd _;obtain⟨v,bs,h1,h2⟩:=qf hT h;split at h2
   . rename_i _ hf;exact⟨_,λE a w Q hn hs=>h1.1 E st a w Q (St.le.refl st) (by rw[hn];exact cP hd) (qG hf) hs,h2⟩
   . exact h2.elim
 . exact h.elim
theorem qt{ops:Array Oper}{tmps:Array Value}{j d:Nat}{oj:Oper}{b:Bool}(hj:ops[j]? =some oj)(hd:oj.dst=some d)(h:tmps.getD d Go.undef= .bool b):yielded ops tmps j=some b:=by
 unfold yielded;simp only[hj,Option.bind_some,hd];cases ht:tmps[d]? with
 |none=>simp[ht,Go.undef]at h
 |some v=>simp[ht]at h;subst h;rfl
theorem vx{ops:Array Oper}{tmps:Array Value}{j d:Nat}{oj:Oper}(hj:ops[j]? =some oj)(hd:oj.dst=some d)(h:tmps.getD d Go.undef= .tuple #[]):yielded ops tmps j=none:=by
 unfold yielded;simp only[hj,Option.bind_some,hd];cases ht:tmps[d]? with
 |none=>rfl
 |some v=>simp[ht]at h;subst h;rfl
theorem mz{ops:Array Oper}{o:Oper}{yes no:Prop}(h:ia ops.toList st o yes no){E:Env}{a:Act}{w:World}(hs:Sim cx E st a w) :
 (Region.wanted o (yielded ops a.tmps)=true/\yes)\/(Region.wanted o (yielded ops a.tmps)=false/\no):=by
 obtain⟨σ,hs⟩:=hs;unfold ia at h;split at h
 . rename_i hg;exact .inl ⟨by simp[Region.wanted,hg],h⟩
 . rename_i j want hg;split at h
   . rename_i oj hj;have hj' :ops[j]? =some oj:=by rw[<- aW];exact hj
     split at h
     . rename_i d hd;split at h
       . rename_i b hb;have hr:=hs.slots d;rw[hb]at hr;have hy:=qt hj' hd hr.bool;cases want <;> cases b <;> simp only[qv]at h
         . exact .inl ⟨by simp[Region.wanted,hg,hy],h⟩
         . exact .inr ⟨by simp[Region.wanted,hg,hy],h⟩
         . exact .inr ⟨by simp[Region.wanted,hg,hy],h⟩
         . exact .inl ⟨by simp[Region.wanted,hg,hy],h⟩
       . rename_i hb;have hr:=hs.slots d;rw[hb]at hr;have hv:a.tmps.getD d Go.undef= .tuple #[]:=by
          generalize a.tmps.getD d Go.undef=u at hr
          cases hr with|tuple _ vs hl _ =>
           have:vs= #[]:=Array.eq_empty_of_size_eq_zero hl;rw[this]
         have hy:=vx hj' hd hv;exact .inr ⟨by simp[Region.wanted,hg,hy],h⟩
       . exact h.elim
     . exact h.elim
   . exact h.elim
theorem fp{E:Env}{a:Act}{w:World}{d:Option Nat}(hd:∀e,d=some e->e<E.nt)(hs:Sim cx E st a w):Sim cx E (st.put d (.tuple []) []) (a.put d Go.undef) w:=by
 obtain⟨σ,hs⟩:=hs;exact⟨σ,hs.put hd (.tuple [] #[] rfl λj c hj=>by simp at hj)⟩
theorem pF(hT:ba cx){dr:Bool}{ops:Array Oper}{E:Env}(hn:E.nt=nt){Q:Exit->Act->World->Prop}:∀(l:List Oper) {k:St->Prop} {st:St} {a:Act} {w:World},oP cx nt dr ops.toList l k st->Sim cx E st a w ->
 (∀st' a' w',k st' ->Sim cx E st' a' w' ->Q .normal a' w')->wpList cx.P ops Q l a w
 |[],k,st,a,w,h,hs,hQ=>hQ st a w h hs
 |o::rest,k,st,a,w,h,hs,hQ=>by
  simp only[oP]at h;unfold wpList;rcases mz h hs with ⟨hw,h⟩|⟨hw,h⟩
  . rw[if_pos hw];obtain⟨st1,h1,h2⟩:=gr hT h;exact .inl (Oper.wp_mono (λa' w' hs' =>pF hT hn rest h2 hs' hQ) (h1 E a w Q hn hs))
  . rw[if_neg (by simp[hw])];split at h
    . rename_i hd;exact pF hT hn rest h (fp (by rw[hn];exact cP hd) hs) hQ
    . exact h.elim
def Js:AV->Option Nat
 | .own s=>some s
 |_=>none
def EV(st:St)(v:AV):Option Nat :=
 match Js v with
 |some s=>(match find st.heap s with|some (.tail ..)=>some s|_=>none)
 |none=>none
theorem Es{v:AV}{s:Nat}(h:Js v=some s):v= .own s:=by
 cases v <;> cases h;rfl
theorem Ms{v:AV}{s:Nat}(h:EV st v=some s):v= .own s:=by
 unfold EV at h;split at h
 . rename_i s' e;split at h
   . cases h;exact Es e
   . cases h
 . cases h
theorem FI{c:Call}{s x:Operand}{t:TypeId}(hc:pT c=some (s,x,t)):c={callee:= .builtin .append,args:= #[s,x],argTypes:= #[t,t]}:=by
 unfold pT at hc;split at hc
 . rename_i s' x' t1 t2 h1 h2 h3;split at hc
   . rename_i hb;cases hc;obtain rfl:t=t2:=aO hb;obtain⟨cc,ca,ct⟩:=c;simp only at h1 h2 h3;subst h1;have e1:ca= #[s,x]:=by rw[<- Array.toList_inj];exact h2
     have e2:ct= #[t,t]:=by rw[<- Array.toList_inj];exact h3
     rw[e1,e2]
   . cases hc
 . cases hc
def zK(cx:Cx)(nt:Nat)(o:Oper)(st:St)(k:St->Prop):Prop :=
 match o.op with
 | .slice t x (some lo) none none=>(match Js (st.ev cx x),cM nt o.dst with
  |some s,true=>xS cx st t s (st.ev cx lo) λv sl hp=>k ⟨bd sl o.dst v,hp⟩
  |some _,false=>False
  |none,_=>iX cx nt false o st k)
 | .call c=>(match c.callee with
  | .builtin .append=>(match pT c with
   |some (s,x,t)=>(match EV st (st.ev cx s),cM nt o.dst with
    |some site,true=>xR cx st t site (iF cx t (st.ev cx x)) λv sl hp=>k ⟨bd sl o.dst v,hp⟩
    |some _,false=>False
    |none,_=>iX cx nt false o st k)
   |none=>iX cx nt false o st k)
  | .value (.tmp t)=>(match cM nt o.dst with
   |true=>(match callee (st.ev cx (.tmp t))with
    |some (g,_,_)=>(match Nat.beq (cx.chg g) 6 with
     |true=>uJ cx st (st.ev cx (.tmp t)) (bM cx st c.args.toList c.argTypes.toList) λv st1=>k ⟨bd st1.slots o.dst v,st1.heap⟩
     |false=>ye cx st (st.ev cx (.tmp t)) (bM cx st c.args.toList c.argTypes.toList) λv st1=>k ⟨bd st1.slots o.dst v,st1.heap⟩)
    |none=>False)
   |false=>False)
  | .value (.func f)=>(match Nat.beq (cx.chg f) 6 with
   |true=>(match cM nt o.dst with
    |true=>uJ cx st (st.ev cx (.func f)) (bM cx st c.args.toList c.argTypes.toList) λv st1=>k ⟨bd st1.slots o.dst v,st1.heap⟩
    |false=>False)
   |false=>iX cx nt false o st k)
  |_=>iX cx nt false o st k)
 |_=>iX cx nt false o st k
theorem EN(hT:ba cx){o:Oper}{k:St->Prop}(h:zK cx nt o st k):∃st1,(∀(E:Env) a w (Q:Exit->Act->World->Prop),E.nt=nt->Sim cx E st a w->o.wp cx.P a w (λa' w' =>Sim cx E st1 a' w') Q)/\k st1:=by
 unfold zK at h;split at h
 . rename_i t x lo ho;split at h
   . rename_i s hs hd;obtain⟨v,sl,hp,h1,h2⟩:=JV hT ho (Es hs) h;exact⟨_,λE a w Q hn hs=>h1 E a w Q (by rw[hn];exact cP hd) hs,h2⟩
   . exact h.elim
   . exact gr hT h
 . rename_i c ho;split at h
   . split at h
     . rename_i s x t hc;split at h
       . rename_i site hs hd;rw[FI hc]at ho;obtain⟨v,sl,hp,h1,h2⟩:=JU hT ho (Ms hs) h;exact⟨_,λE a w Q hn hs=>h1 E a w Q (by rw[hn];exact cP hd) hs,h2⟩
       . exact h.elim
       . exact gr hT h
     . exact gr hT h
   . rename_i t hc;split at h
     . rename_i hd;split at h
       . split at h
         . obtain⟨v,st1,h1,h2⟩:=xx ho hc h;exact⟨_,λE a w Q hn hs=>h1 E a w Q (by rw[hn];exact cP hd) hs,h2⟩
         . obtain⟨v,st1,h1,h2⟩:=CZ ho hc h;exact⟨_,λE a w Q hn hs=>h1 E a w Q (by rw[hn];exact cP hd) hs,h2⟩
       . exact h.elim
     . exact h.elim
   . rename_i f hc;split at h
     . split at h
       . rename_i hd;obtain⟨v,st1,h1,h2⟩:=xx ho hc h;exact⟨_,λE a w Q hn hs=>h1 E a w Q (by rw[hn];exact cP hd) hs,h2⟩
       . exact h.elim
     . exact gr hT h
   . exact gr hT h
 . exact gr hT h
def seqB(cx:Cx)(nt:Nat)(ops:List Oper):List Oper->(St->Prop)->St->Prop
 |[],k,st=>k st
 | o :: rest, k, st => ia ops st o (match zR cx st o with
     |some (s,left)=>(match cM nt o.dst with
      |true=>(left=[]->seqB cx nt ops rest k ⟨bd st.slots o.dst (.tuple [.d (.bool false)]),st.heap⟩)/\ ∀i kk x,left[i]? =some (kk,x)->seqB cx nt ops rest k ⟨bd st.slots o.dst (AB kk x),(s,.iter (left.eraseIdx i) (some (kk,x)))::st.heap⟩
      |false=>False)
     |none=>(match vW cx st o with
      |some (d,m)=>(match cM nt o.dst,find st.heap d with
       |true,none=>seqB cx nt ops rest k ⟨bd st.slots o.dst (.ptr d 0),(d,.iter m none)::st.heap⟩
       |_,_=>False)
      |none=>(match vG cx st o with
       |some (kk,x)=>(match cM nt o.dst with
        |true=>seqB cx nt ops rest k ⟨bd st.slots o.dst (.tuple [(ry kk).dB,x.dB]),st.heap⟩
        |false=>False)
       |none=>(match yq cx st o with
        |some r=>(match cM nt o.dst with
         |true=>r.rows2.length=r.rows.length/\seqB cx nt ops rest k ⟨bd st.slots o.dst (.d (.int .i64 r.rows.length)),(r.s,.row r.e r.sz r.rows2 r.fl)::st.heap⟩
         |false=>False)
        |none=>(match zg cx st o with
         |some (g,as)=>(match cM nt o.dst with
          |true=> ∃(ι:Type) (res:ι->AV) (bs:ι->List (Nat×Blk)),(FnC cx g as res bs/\ ∀i,sZ (bs i)=true/\pQ st.heap (bs i)=true)/\ ∀i,seqB cx nt ops rest k (st.put o.dst (res i) (bs i))
          |false=>False)
         |none=>zK cx nt o st λst' =>seqB cx nt ops rest k st'))))) (match cM nt o.dst with|true=>seqB cx nt ops rest k (st.put o.dst (.tuple []) [])|false=>False)
theorem ji(hT:ba cx){ops:Array Oper}{E:Env}(hn:E.nt=nt){Q:Exit->Act->World->Prop}:∀(l:List Oper) {k:St->Prop} {st:St} {a:Act} {w:World},seqB cx nt ops.toList l k st->Sim cx E st a w ->
 (∀st' a' w',k st' ->Sim cx E st' a' w' ->Q .normal a' w')->wpList cx.P ops Q l a w
 |[],k,st,a,w,h,hs,hQ=>hQ st a w h hs
 |o::rest,k,st,a,w,h,hs,hQ=>by
  simp only[seqB]at h;unfold wpList;rcases mz h hs with ⟨hw,h⟩|⟨hw,h⟩
  . rw[if_pos hw];split at h
    . rename_i s left hwk;split at h
      . rename_i hd;exact .inl (QO hwk (by rw[hn];exact cP hd) hs (λhe a' w' hs' =>ji hT hn rest (h.1 he) hs' hQ) λi kk x hx a' w' hs' =>ji hT hn rest (h.2 i kk x hx) hs' hQ)
      . exact h.elim
    . split at h
      . rename_i d m hr;split at h
        . rename_i hd hf;exact .inl (Oper.wp_mono (λa' w' hs' =>ji hT hn rest h hs' hQ) (LL hT hr hf E a w Q (by rw[hn];exact cP hd) hs))
        . exact h.elim
      . split at h
        . rename_i kk x he;split at h
          . rename_i hd;exact .inl (Oper.wp_mono (λa' w' hs' =>ji hT hn rest h hs' hQ) (Nx he E a w Q (by rw[hn];exact cP hd) hs))
          . exact h.elim
        . split at h
          . rename_i r hr;split at h
            . rename_i hd;exact .inl (Oper.wp_mono (λa' w' hs' =>ji hT hn rest h.2 hs' hQ) (Qe hT hr h.1 E a w Q (by rw[hn];exact cP hd) hs))
            . exact h.elim
          . split at h
            . rename_i g as hpk;split at h
              . rename_i hd;obtain⟨ι,res,bs,⟨hFn,hbs⟩,h2⟩:=h;exact .inl (Oper.wp_mono (λa' w' ⟨i,hs'⟩=>ji hT hn rest (h2 i) hs' hQ) (QU hpk hFn (λi=>(hbs i).1) (λi=>qG (hbs i).2) E a w Q (by rw[hn];exact cP hd) hs))
              . exact h.elim
            . obtain⟨st1,h1,h2⟩:=EN hT h;exact .inl (Oper.wp_mono (λa' w' hs' =>ji hT hn rest h2 hs' hQ) (h1 E a w Q hn hs))
  . rw[if_neg (by simp[hw])];split at h
    . rename_i hd;exact ji hT hn rest h (fp (by rw[hn];exact cP hd) hs) hQ
    . exact h.elim
end
def cD(x:Nat):List Nat->Bool
 |[]=>false
 |y::t=>(match Nat.beq x y with|true=>true|false=>cD x t)
theorem cY{x:Nat}:∀{l:List Nat},cD x l=true ↔ x∈l
 |[]=>by simp[cD]
 |y::t=>by
  simp only[cD];by_cases h:x=y
  . subst h;simp
  . have:Nat.beq x y=false:=by rw[<- Bool.not_eq_true];exact λe=>h (aO e)
    rw[this];simp[cY (l:=t),h]
def eK(o:Oper):List Nat:=(o.after.toList.filter (Region.binds .any)).map (·.on)
def Ks:List Nat->List Nat->List Nat
 |[],acc=>acc
 |x::t,acc=>Ks t (match cD x acc with|true=>acc|false=>x::acc)
def Hs(acc:List (List Nat)):List Nat->List Nat->List Nat
 |[],r=>r
 |e::t,r=>Hs acc t (Ks (e::(acc[e]?).getD []) r)
def closure:List Oper->List (List Nat)->List (List Nat)
 |[],acc=>acc
 |o::t,acc=>closure t (acc++[Hs acc (eK o) []])
def lp:Op->Bool
 | .alloc _=>true
 | .box .. =>true
 | .buildSlice .. =>true
 | .makeMap .. =>true
 | .makeSlice .. =>true
 |_=>false
def uf(c:Call):Bool :=
 (match c.callee with| .value (.func _)=>true|_=>false)&&c.args.toList.all fun| .const _=>true|_=>false
def kU:Op->Bool
 | .indexAddr .. =>true
 | .call c=> !(uf c)
 | .lookup .. =>true
 |_=>false
def jT:AV->Option Nat
 | .ptr s _=>some s
 | .rptr s _ _ _=>some s
 |_=>none
def looks(ops:List Oper)(o:Oper):List Nat :=
 (o.op.operands.toList.filterMap fun| .tmp t=>some t|_=>none)++(match o.guard with|some (g,_)=>(match ops[g]? with|some og=>og.dst.toList|none=>[])|none=>[])
def cm(mt:Nat->Nat):List Oper->Nat
 |[]=>0
 |o::t=>(match Cq mt o.op with|true=>0|false=>cm mt t+1)
def DX:Op->Bool
 | .extract .. =>true
 | .move _=>true
 |_=>false
def Ee(ops:List Oper)(cx:List Nat)(m x:Nat)(ci:List Nat):Bool :=
 Nat.blt x m&&(match ops[x]? with
  | some ox => DX ox.op && (eK ox).all (fun e => cD e ci) && (ops.all fun o => match o.op with | .select .. => false | _ => true) &&
      (List.range ops.length).all (λj=>Nat.beq j x||cD j cx||(match ops[j]? with|some oj=>oj.after.any (λe=>Region.binds .any e&&e.on==x)||ox.apart ops.toArray oj|none=>true))
  |none=>false)
def Ez(ops:List Oper)(cl:List (List Nat))(m i:Nat)(o:Oper):Bool :=
 let ci:=(cl[i]?).getD []
 (eK o).all (λe=>Nat.blt e i&&cD e ci&&((cl[e]?).getD []).all (λx=>cD x ci)) &&
 ci.all (λx=>Nat.blt x i&&(eK o).any (λe=>Nat.beq e x||cD x ((cl[e]?).getD []))) &&
 (match Nat.ble m i with
  |true=>(List.range i).all (λx=>cD x ci||Ee ops ((cl[x]?).getD []) m x ci)
  | false => ((List.range m).all fun j => (match ops[j]? with
      |some oj=>(match Nat.beq i j with
       |true=>true
       | false => (match oj.dst with
           |some d=>(match cD d (looks ops o)with
            |true=>(match Nat.blt j i with|true=>cD j ci|false=>cD i ((cl[j]?).getD []))
            |false=>true)&&(match o.dst with|some d' => !(Nat.beq d d')|none=>true)
           |none=>true)&&(match kU o.op&&lp oj.op&&Nat.blt j i with|true=>cD j ci|false=>true))
      |none=>false)))
def vV(ops:List Oper)(cl:List (List Nat))(m:Nat):Nat->List Oper->Bool
 |_,[]=>true
 |i,o::t=>Ez ops cl m i o&&vV ops cl m (i+1) t
def bC(mt:Nat->Nat)(ops:List Oper):Bool:=vV ops (closure ops []) (cm mt ops) 0 ops
def ID(cx:Cx)(nt:Nat)(ops:List Oper)(k:St->Prop)(st:St):Prop:=bC cx.chg ops=true/\oP cx nt true ops ops k st
theorem wO{ops:List Oper}{cl:List (List Nat)}{m:Nat}:∀{l:List Oper} {i:Nat},vV ops cl m i l=true-> ∀j o,l[j]? =some o->Ez ops cl m (i+j) o=true
 |[],i,_,j,o,h=>by simp at h
 |x::t,i,hp,j,o,h=>by
  simp only[vV,aH]at hp;cases j with
  |zero=>simp at h;subst h;exact hp.1
  |succ j=>simp at h;have:=wO hp.2 j o h;rwa [show i+1+j=i+(j+1) by omega]at this
theorem DK{mt:Nat->Nat}:∀{l:List Oper} {i:Nat},i<cm mt l-> ∃o,l[i]? =some o/\Cq mt o.op=false
 |[],i,h=>by simp[cm]at h
 |o::t,i,h=>by
  simp only[cm]at h;split at h
  . omega
  . rename_i he;cases i with
    |zero=>exact⟨o,rfl,he⟩
    |succ i=>exact DK (l:=t) (by omega)
theorem DJ{mt:Nat->Nat}:∀(l:List Oper),cm mt l<=l.length
 |[]=>Nat.le_refl _
 |o::t=>by simp only[cm];split <;> simp;exact DJ t
structure MI(ops:List Oper)(cx:List Nat)(x:Nat):Prop where
 op:∃ox,ops[x]? =some ox/\DX ox.op=true
 sel:∀o∈ops,∀cs b,o.op≠ .select cs b
 free:∀ox j oj,ops[x]? =some ox->ops[j]? =some oj->j≠x->j ∉ cx->(∀e∈oj.after,Region.binds .any e=true->e.on≠x)->ox.apart ops.toArray oj=true
theorem LB{ops:List Oper}{cx:List Nat}{m x:Nat}{ci:List Nat}(h:Ee ops cx m x ci=true):x<m/\MI ops cx x/\ ∀ox,ops[x]? =some ox-> ∀e∈eK ox,e∈ci:=by
 unfold Ee at h;simp only[aH]at h;obtain⟨h1,h2⟩:=h;split at h2
 . rename_i ox hox;simp only[aH,ay]at h2;obtain⟨⟨⟨h2,h3⟩,h4⟩,h5⟩:=h2;refine⟨Nat.lt_of_succ_le (ag h1),⟨⟨ox,hox,h2⟩,λo ho cs b e=>?_,λox' j oj ho hj hne hcx hno=>?_⟩,λox' ho e he=>?_⟩
   . have:=h4 o ho;rw[e]at this;cases this
   . rw[hox]at ho;cases ho;have:=h5 j (List.mem_range.2 (aq.1 hj).1);have hb:Nat.beq j x=false:=by rw[<- Bool.not_eq_true];exact λe=>hne (aO e)
     have hb2:cD j cx=false:=by rw[<- Bool.not_eq_true];exact λe=>hcx (cY.1 e)
     rw[hb,hb2,hj]at this;simp only[iJ,Bool.or_eq_true]at this;rcases this with h|h
     . rw[Array.any_eq_true']at h;obtain⟨e,he,hh⟩:=h;simp only[aH,beq_iff_eq]at hh;exact absurd hh.2 (hno e he hh.1)
     . exact h
   . rw[hox]at ho;cases ho;exact cY.1 (h3 e he)
 . cases h2
structure ML(ops:List Oper)(cl:Nat->List Nat)(m:Nat):Prop where
 edge:∀i o,ops[i]? =some o-> ∀e∈eK o,e<i/\e∈cl i/\ ∀x∈cl e,x∈cl i
 least:∀i o,ops[i]? =some o-> ∀x∈cl i,x<i/\ ∃e∈eK o,e=x\/x∈cl e
 tail:∀i o,ops[i]? =some o->m<=i-> ∀x,x<i->x∈cl i\/(x<m/\MI ops (cl x) x/\ ∀ox,ops[x]? =some ox-> ∀e∈eK ox,e∈cl i)
 look:∀i o,ops[i]? =some o->i<m-> ∀j oj d,ops[j]? =some oj->j<m->i≠j->oj.dst=some d->d∈looks ops o->(j<i->j∈cl i)/\(i<j->i∈cl j)
 dst:∀i o,ops[i]? =some o->i<m-> ∀j oj d,ops[j]? =some oj->j<m->i≠j->oj.dst=some d->o.dst≠some d
 read:∀i o,ops[i]? =some o->i<m-> ∀j oj,ops[j]? =some oj->j<i->kU o.op=true->lp oj.op=true->j∈cl i
theorem QV{mt:Nat->Nat}{ops:List Oper}(h:bC mt ops=true):∃cl,ML ops cl (cm mt ops):=by
 refine⟨λi=>((closure ops [])[i]?).getD [],?_,?_,?_,?_,?_,?_⟩
 all_goals
  intro i o ho;have hp:=wO h i o ho;rw[Nat.zero_add]at hp;simp only[Ez,aH]at hp;obtain⟨⟨h1,h2⟩,h3⟩:=hp
 . intro e he;have:=ay.1 h1 e he;simp only[aH]at this;exact⟨Nat.lt_of_succ_le (ag this.1.1),cY.1 this.1.2,λx hx=>cY.1 (ay.1 this.2 x hx)⟩
 . intro x hx;have:=ay.1 h2 x hx;simp only[aH,List.any_eq_true,Bool.or_eq_true]at this;obtain⟨a,e,he,hh⟩:=this;exact⟨Nat.lt_of_succ_le (ag a),e,he,hh.imp aO cY.1⟩
 . intro hm x hx;rw[show Nat.ble (cm mt ops) i=true from Nat.ble_eq_true_of_le hm]at h3;have h3x:=ay.1 h3 x (List.mem_range.2 hx);rw[Bool.or_eq_true]at h3x;exact h3x.imp cY.1 LB
 all_goals
  intro hm;have hble:Nat.ble (cm mt ops) i=false:=by rw[<- Bool.not_eq_true];intro e;have:=ag e;omega
  rw[hble]at h3
 . intro j oj d hj hjm hne hd hl;have:=ay.1 h3 j (List.mem_range.2 hjm);have hij:Nat.beq i j=false:=by rw[<- Bool.not_eq_true];exact λe=>hne (aO e)
   simp only[hj,hij,hd,cY.2 hl,aH]at this;obtain⟨⟨t1,_⟩,_⟩:=this;refine⟨λhlt=>?_,λhlt=>?_⟩
   . rw[show Nat.blt j i=true from Nat.ble_eq_true_of_le hlt]at t1;exact cY.1 t1
   . have:Nat.blt j i=false:=by rw[<- Bool.not_eq_true];intro e;have:=ag e;omega
     rw[this]at t1;exact cY.1 t1
 . intro j oj d hj hjm hne hd hdd;have:=ay.1 h3 j (List.mem_range.2 hjm);have hij:Nat.beq i j=false:=by rw[<- Bool.not_eq_true];exact λe=>hne (aO e)
   simp only[hj,hij,hd,hdd,aH]at this;simp at this
 . intro j oj hj hlt hr hmk;have:=ay.1 h3 j (List.mem_range.2 (by omega));have hij:Nat.beq i j=false:=by rw[<- Bool.not_eq_true];intro e;have:=aO e;omega
   simp only[hj,hij,aH,hr,hmk,gZ,show Nat.blt j i=true from Nat.ble_eq_true_of_le hlt]at this;exact cY.1 this.2
theorem Sim.ext{cx:Cx}{E:Env}{st st' :St}{a:Act}{w:World}(h:Sim cx E st a w)(h1:∀t,st'.get t=st.get t)(h2:∀s,find st'.heap s=find st.heap s):Sim cx E st' a w:=by
 obtain⟨σ,hs⟩:=h;have hl:live st'.heap=live st.heap:=funext λs=>by unfold live;rw[h2]
 refine⟨σ,hs.frame,hs.new,hs.apart,hs.defers,hs.nt,λt=>?_,⟨λs b hb=>?_,?_⟩,hs.glob,hs.globF,λq0 B hB=>⟨(hs.fix q0 B hB).1,λh=>(hs.fix q0 B hB).2 (by rw[hl]at h;exact h)⟩⟩
 . rw[hl,h1];exact hs.slots t
 . rw[hl];rw[h2]at hb;exact hs.holds.blk s b hb
 . rw[hl];exact hs.holds.inj
theorem gP{f g:AV->Option D}(h:∀c,f c=g c)(l:List AV):bN f l=bN g l:=by
 rw[show f=g from funext h]
theorem Gt{st st' :St}(h:st.heap=st'.heap)(c:AV):fU st c=fU st' c:=by
 have hC:∀c,jJ st c=jJ st' c:=λc=>by cases c <;> simp[jJ,h]
 have hP:∀c,eY st c=eY st' c:=λc=>by cases c <;> simp[eY,h,hC,gP hC]
 have hG:∀c,nr st c=nr st' c:=λc=>by cases c <;> simp[nr,hP,gP hP]
 have hK:∀s off,lL st s off=lL st' s off:=λs off=>by unfold lL;rw[h]
 have hB:∀c,kE st c=kE st' c:=λc=>by
  cases c with
  |ptr s off=>simp only[kE,hK,hG,hP]
  |_=>(simp only[kE];exact hP _)
 have hF:∀c,iY st c=iY st' c:=λc=>by cases c <;> simp[iY,hP,gP hP,gP hB]
 cases c <;> simp[fU,hF,gP hF]
theorem Fa{st st' :St}(h:st.heap=st'.heap)(c:AV):np st c=np st' c:=by
 have hC:∀c,nq st c=nq st' c:=λc=>by cases c <;> simp[nq,h]
 cases c <;> simp[np,hC,gP hC]
theorem ri{cx:Cx}{st st' :St}:∀(xs:List Operand) (ts:List TypeId),(∀x∈xs,st.ev cx x=st'.ev cx x)->bM cx st xs ts=bM cx st' xs ts
 |[],ts,h=>rfl
 |x::xs,t::ts,h=>by simp only[bM];rw[h x (by simp),ri xs ts λy hy=>h y (by simp[hy])]
 |x::xs,[],h=>by simp only[bM];rw[h x (by simp),ri xs [] λy hy=>h y (by simp[hy])]
theorem wQ{cx:Cx}{st st' :St}{size:Nat}:∀(l:List (Nat×Operand)) (i:Nat),(∀p∈l,st.ev cx p.2=st'.ev cx p.2)->ph st cx size i l=ph st' cx size i l
 |[],i,h=>rfl
 |(j,x)::t,i,h=>by
  simp only[ph];have hx:st.ev cx x=st'.ev cx x:=h (j,x) (by simp);rw[hx,wQ t (i+1) λy hy=>h y (by simp[hy])]
theorem wR{cx:Cx}{st st' :St}{size:Nat}:∀(l:List (Nat×Operand)) (i:Nat),(∀p∈l,st.ev cx p.2=st'.ev cx p.2)->pj st cx size i l=pj st' cx size i l
 |[],i,h=>rfl
 |(j,x)::t,i,h=>by
  simp only[pj];have hx:st.ev cx x=st'.ev cx x:=h (j,x) (by simp);rw[hx,wR t (i+1) λy hy=>h y (by simp[hy])]
def zh:AV->Bool
 | .d _=>true
 | .nil _=>true
 | .undef=>true
 |_=>false
def ng:AV->Bool
 | .agg cs=>cs.all zh
 |v=>zh v
theorem qT(v:Value):zh (mo v)=true:=by
 unfold mo;split <;> rfl
theorem sk(v:Value):ng (ofConst v)=true:=by
 unfold ofConst;split
 . simp only[ng,ay,List.mem_map];rintro _ ⟨x, -, rfl⟩;exact qT x
 . rename_i h;have:=qT v;unfold ng;split
   . rename_i hh;rw[hh]at this;cases this
   . exact this
theorem Cc{cx:Cx}{t:TypeId}{v:AV}(h:ng v=true):ng (iF cx t v)=true:=by
 unfold iF;split
 . split
   . split <;> rfl
   . rfl
 . exact h
theorem Gv{st:St}{v:AV}(h:zh v=true):iY st v=ll v:=by
 cases v <;> first|rfl|(cases h;done)
theorem tK{f g:AV->Option D}:∀{l:List AV},(∀x∈l,f x=g x)->bN f l=bN g l
 |[],_=>rfl
 |x::t,h=>by simp only[bN];rw[h x (by simp),tK λy hy=>h y (by simp[hy])]
theorem Gu{st:St}{v:AV}(h:ng v=true):fU st v=gF v:=by
 cases v <;> first|rfl|(cases h;done)|skip
 rename_i cs;simp only[ng,ay]at h;have:bN (iY st) cs=bN ll cs:=tK λx hx=>Gv (h x hx)
 simp only[fU,gF,this]
theorem rj{cx:Cx}{st st' :St}:∀(l:List Operand) (ts:List TypeId),(l.all fun| .const _=>true|_=>false)=true->bM cx st l ts=bM cx st' l ts/\ ∀v∈bM cx st l ts,ng v=true
 |[],_,_=>⟨rfl,λv hv=>by cases hv⟩
 |x::t,ts,h=>by
  simp only[List.all_cons,aH]at h;obtain⟨hx,ht⟩:=h;cases x <;> first|(cases hx;done)|skip
  rename_i v;have e:St.ev cx st (.const v)=ofConst v:=rfl;have e' :St.ev cx st' (.const v)=ofConst v:=rfl;cases ts with
  |nil =>
   obtain⟨h1,h2⟩:=rj (cx:=cx) (st:=st) (st' :=st') t [] ht;refine⟨by simp only[bM,e,e',h1],λu hu=>?_⟩;simp only[bM,e,List.mem_cons]at hu;rcases hu with rfl|hu
   . exact sk v
   . exact h2 u hu
  |cons y ts =>
   obtain⟨h1,h2⟩:=rj (cx:=cx) (st:=st) (st' :=st') t ts ht;refine⟨by simp only[bM,e,e',h1],λu hu=>?_⟩;simp only[bM,e,List.mem_cons]at hu;rcases hu with rfl|hu
   . exact Cc (sk v)
   . exact h2 u hu
theorem Lf{cx:Cx}{st st' :St}{f:FuncId}{l:List AV}{k:KK}(h:∀v∈l,ng v=true):fnK cx st (.d (.fn f [] [])) l k=fnK cx st' (.d (.fn f [] [])) l k:=by
 have hv:∀s:St,bN (fU s) l=bN gF l:=λs=>tK λx hx=>Gu (h x hx)
 unfold fnK;simp only[callee,List.map_nil,List.nil_append,List.append_nil];have hl:gq cx st f l k=gq cx st' f l k:=by
  unfold gq;cases l with
  |nil=>rfl
  |cons x t =>
   have hx:=h x (by simp);cases x <;> first|rfl|(cases hx;done)
 rw[hl,hv st,hv st'];cases bN gF l with
 |some ds=>rfl
 |none=>rfl
theorem Bu{cx:Cx}{st st' :St}{d:Option Nat}{ty:TypeId}{op:Op}{k:KK}(h1:∀x∈op.operands.toList,st.ev cx x=st'.ev cx x)(h2:kU op=true->st.heap=st'.heap)(h3:∀t x,op= .load t x-> ∀s,jT (st.ev cx x)=some s->find st'.heap s=find st.heap s):opK cx d ty st op k=opK cx d ty st' op k:=by
 cases op <;> simp only[Op.operands]at h1 <;> simp only[opK]
 case move x=>rw[h1 x (by simp)]
 case assign x=>rw[h1 x (by simp)]
 case pick c a b=>rw[h1 c (by simp),h1 a (by simp),h1 b (by simp)]
 case box e x=>rw[h1 x (by simp)]
 case build t parts =>
  unfold oh;have:∀fs:List (Nat×TypeId),parts.toList.map (ze cx st fs)=parts.toList.map (ze cx st' fs):=λfs=>by
   refine List.map_congr_left λp hp=>?_
   have:=h1 p.2 (by simp;exact⟨p.1,by simpa using hp⟩);unfold ze;rw[this]
  simp only[this]
 case buildSlice t n parts =>
  have:∀size,ph st cx size 0 parts.toList=ph st' cx size 0 parts.toList:=λsize=>wQ _ _ λp hp=>h1 p.2 (by simp;exact⟨p.1,by simpa using hp⟩)
  have this' :∀size,pj st cx size 0 parts.toList=pj st' cx size 0 parts.toList:=λsize=>wR _ _ λp hp=>h1 p.2 (by simp;exact⟨p.1,by simpa using hp⟩)
  simp only[this,this']
 case load t x =>
  have h3:=h3 t x rfl;rw[h1 x (by simp)]at h3 ⊢;generalize st'.ev cx x=v at h3;unfold mZ;cases v <;> first|rfl|(rename_i y;cases y <;> rfl)|(have h4:=h3 _ rfl;simp only[h4])
 case nilCheck x=>rw[h1 x (by simp)]
 case binOp op t x y ty=>rw[h1 x (by simp),h1 y (by simp)]
 case unOp op t x=>rw[h1 x (by simp)]
 case convert s t x=>rw[h1 x (by simp)]
 case makeFunc fn first caps =>
  have e1:first.toList.map (st.ev cx)=first.toList.map (st'.ev cx):=List.map_congr_left λx hx=>h1 x (by simp;left;simpa using hx)
  have e2:caps.toList.map (st.ev cx)=caps.toList.map (st'.ev cx):=List.map_congr_left λx hx=>h1 x (by simp;right;simpa using hx)
  rw[e1,e2]
 case makeSlice t l c=>rw[h1 l (by simp),h1 c (by simp)]
 case slice t x lo hi mx =>
  rw[h1 x (by simp)];have e1:lo.map (st.ev cx)=lo.map (st'.ev cx):=by cases lo with
   |none=>rfl
   |some y=>simp;exact h1 y (by simp)
  have e2:hi.map (st.ev cx)=hi.map (st'.ev cx):=by cases hi with
   |none=>rfl
   |some y=>simp;exact h1 y (by simp)
  rw[e1,e2]
 case fieldAddr s x f=>rw[h1 x (by simp)]
 case field t x f=>rw[h1 x (by simp)]
 case indexAddr t x i=>rw[h1 x (by simp),h1 i (by simp)];unfold dC;rw[h2 rfl]
 case index t x i=>rw[h1 x (by simp),h1 i (by simp)]
 case lookup t x i ok =>
  have hm:∀c,mapOf st c=mapOf st' c:=λc=>by unfold mapOf;rw[h2 rfl]
  rw[h1 x (by simp),h1 i (by simp)];unfold gR;rw[hm,h2 rfl]
 case makeMap t r =>
  have e1:r.map (st.ev cx)=r.map (st'.ev cx):=by cases r with
   |none=>rfl
   |some y=>simp;exact h1 y (by simp)
  rw[e1]
 case extract x i=>rw[h1 x (by simp)]
 case call c =>
  by_cases hc:uf c=true
  . simp only[uf,aH]at hc;obtain⟨hc1,hc2⟩:=hc;obtain⟨cal,args,ts⟩:=c;cases cal <;> first|(cases hc1;done)|skip
    rename_i f;cases f <;> first|(cases hc1;done)|skip
    rename_i f;simp only[sD];obtain⟨e1,e2⟩:=rj (cx:=cx) (st:=st) (st' :=st') args.toList ts.toList hc2;rw[<- e1];exact Lf e2
  have hh:=h2 (by simp[kU,hc]);obtain⟨cal,args,ts⟩:=c;cases cal with
  |value f =>
   have ef:st.ev cx f=st'.ev cx f:=h1 f (by simp[Call.operands]);have ea:bM cx st args.toList ts.toList=bM cx st' args.toList ts.toList:=ri _ _ λx hx=>h1 x (by simp[Call.operands];right;simpa using hx)
   have ev:∀l,bN (fU st) l=bN (fU st') l:=gP (Gt hh);have el:∀l v,yJ st l v=yJ st' l v:=λl v=>by unfold yJ yK;rw[gP (Fa hh),hh]
   have eb:∀g l,gq cx st g l k=gq cx st' g l k:=λg l=>by unfold gq;rw[hh]
   simp only[sD,fnK,ef,ea,ev,eb,el]
  |invoke r m=>rfl
  |builtin b =>
   cases b <;> simp only[sD];have ea:∀x∈args.toList,st.ev cx x=st'.ev cx x:=λx hx=>h1 x (by simp[Call.operands];simpa using hx)
   generalize args.toList=l at ea
   generalize ts.toList=tl
   match l,tl with
   |[x],[t] =>
    have ex:=ea x (by simp);simp only[ex];unfold kv;rw[hh]
   |[],_=>rfl
   |[_],[]=>rfl
   |[_],_::_::_=>rfl
   |_::_::_,_=>rfl
section
variable {cx:Cx} {st:St} {k:KK}
def kF(v:AV)(bs:List (Nat×Blk)):KK:=λv' bs' =>v' =v/\bs' =bs
theorem db(v:AV)(bs:List (Nat×Blk)):kF v bs v bs:=⟨rfl,rfl⟩
theorem dR{o:Option AV}(h:ig o k):∃v,k v []/\ig o (kF v []):=by
 cases o with
 |none=>exact h.elim
 |some v=>exact⟨v,h,db _ _⟩
theorem LD{t:TypeId}{x:AV}(h:mZ cx st t x k):∃v,k v []/\mZ cx st t x (kF v []):=by
 unfold mZ at h;split at h
 . split at h
   . rename_i hf;obtain⟨v,h1,h2⟩:=dR h;exact⟨v,h1,by simp only[mZ,hf];exact h2⟩
   . exact h.elim
 . split at h
   . rename_i hf;split at h
     . rename_i hb;obtain⟨row,hr,h⟩:=h;obtain⟨v,h1,h2⟩:=dR h;exact⟨v,h1,by simp only[mZ,hf,hb];exact⟨row,hr,h2⟩⟩
     . exact h.elim
   . rename_i hf;split at h
     . rename_i hb;obtain⟨row,hr,h⟩:=h;obtain⟨v,h1,h2⟩:=dR h;exact⟨v,h1,by simp only[mZ,hf,hb];exact⟨row,hr,h2⟩⟩
     . exact h.elim
   . rename_i hf;split at h
     . rename_i hb;obtain⟨row,hr,h⟩:=h;obtain⟨v,h1,h2⟩:=dR h;exact⟨v,h1,by simp only[mZ,hf,hb];exact⟨row,hr,h2⟩⟩
     . exact h.elim
   . exact h.elim
 . obtain⟨v,h1,h2⟩:=dR h;exact⟨v,h1,h2⟩
 . exact h.elim
theorem Ap{t:TypeId}{x i:AV}(h:dC cx st t x i k):∃v,k v []/\dC cx st t x i (kF v []):=by
 unfold dC at h;split at h
 . split at h
   . rename_i hse;split at h
     . split at h
       . rename_i hb;obtain⟨h0,row,hr,h⟩:=h;exact⟨_,h,by simp only[dC,hse,hb];exact⟨h0,row,hr,db _ _⟩⟩
       . exact h.elim
     . split at h
       . rename_i hf;split at h
         . rename_i hb;obtain⟨h0,h1,h⟩:=h;exact⟨_,h,by simp only[dC,hse,hf,hb];exact⟨h0,h1,db _ _⟩⟩
         . exact h.elim
       . rename_i hf;split at h
         . rename_i hb;obtain⟨h0,h1,h⟩:=h;exact⟨_,h,by simp only[dC,hse,hf,hb];exact⟨h0,h1,db _ _⟩⟩
         . exact h.elim
       . rename_i hf;split at h
         . rename_i hb;obtain⟨h0,h1,h⟩:=h;exact⟨_,h,by simp only[dC,hse,hf,hb];exact⟨h0,h1,db _ _⟩⟩
         . exact h.elim
       . exact h.elim
     . split at h
       . rename_i hf;split at h
         . rename_i hb hb2;obtain⟨h0,h1,h⟩:=h;exact⟨_,h,by simp only[dC,hse,hf,hb,hb2];exact⟨h0,h1,db _ _⟩⟩
         . exact h.elim
       . exact h.elim
     . exact h.elim
   . rename_i hse;split at h
     . rename_i ha;obtain⟨h0,h1,h⟩:=h;obtain⟨v,h2,h3⟩:=dR h;exact⟨v,h2,by simp only[dC,hse,ha];exact⟨h0,h1,h3⟩⟩
     . exact h.elim
 . exact h.elim
theorem IU{t:TypeId}{x i:AV}(h:pR cx t x i k):∃v,k v []/\pR cx t x i (kF v []):=by
 unfold pR at h;split at h
 . rename_i hs;obtain⟨h0,c,hc,h⟩:=h;exact⟨_,h,by simp only[pR,hs];exact⟨h0,c,hc,db _ _⟩⟩
 . exact h.elim
theorem Nn{t:TypeId}{x:AV}{lo hi:Option AV}(h:uj cx t x lo hi k):∃v,k v []/\uj cx t x lo hi (kF v []):=by
 unfold uj at h;split at h
 . split at h
   . rename_i e1 e2 e3;obtain⟨h0,h1,h2,h⟩:=h;exact⟨_,h,by simp only[uj,e1,e2,e3];exact⟨h0,h1,h2,db _ _⟩⟩
   . exact h.elim
 . split at h
   . rename_i e1 e2 e3;split at h
     . rename_i hb;obtain⟨h0,h1,h2,h⟩:=h;exact⟨_,h,by simp only[uj,e1,e2,e3,hb];exact⟨h0,h1,h2,db _ _⟩⟩
     . exact h.elim
   . exact h.elim
 . exact h.elim
theorem FQ{t:TypeId}{x i:AV}{ok:Bool}(h:gR cx st t x i ok k):∃v,k v []/\gR cx st t x i ok (kF v []):=by
 unfold gR at h;split at h
 . rename_i em;unfold pW at h;split at h
   . rename_i e0;split at h
     . rename_i e1 e2 e3;split at h
       . rename_i e4 e5;obtain⟨r,hr,h⟩:=h;cases r <;> cases ok <;> exact⟨_,h,by simp only[gR,em,pW,e0,e1,e2,e3,e4,e5];exact⟨_,hr,db _ _⟩⟩
       . exact h.elim
     . exact h.elim
   . rename_i e0;split at h
     . rename_i e1 e2;split at h
       . rename_i e4;obtain⟨r,hr,h⟩:=h;cases r <;> cases ok <;> exact⟨_,h,by simp only[gR,em,pW,e0,e1,e2,e4];exact⟨_,hr,db _ _⟩⟩
       . exact h.elim
     . exact h.elim
   . exact h.elim
 rename_i em;split at h
 . rename_i e0;split at h
   . rename_i e1 e2 e3;split at h
     . rename_i e4;split at h
       . rename_i e5;cases ok <;> exact⟨_,h,by simp only[gR,em,e0,e1,e2,e3,e4,e5];exact db _ _⟩
       . rename_i e5;cases ok <;> exact⟨_,h,by simp only[gR,em,e0,e1,e2,e3,e4,e5];exact db _ _⟩
     . exact h.elim
   . rename_i e1 e2 e3;split at h
     . rename_i e4;obtain⟨r,hr,h⟩:=h;exact⟨_,h,by simp only[gR,em,e0,e1,e2,e3,e4];exact⟨r,hr,db _ _⟩⟩
     . exact h.elim
   . exact h.elim
 . exact h.elim
theorem Og{t:TypeId}{x:AV}(h:kv cx st t x k):∃v,k v []/\kv cx st t x (kF v []):=by
 unfold kv at h;split at h
 . split at h
   . rename_i e;exact⟨_,h,by simp only[kv,e];exact db _ _⟩
   . exact h.elim
 . split at h
   . rename_i e;exact⟨_,h,by simp only[kv,e];exact db _ _⟩
   . exact h.elim
 . split at h
   . rename_i e;exact⟨_,h,by simp only[kv,e];exact db _ _⟩
   . exact h.elim
 . split at h
   . rename_i e1 e2;exact⟨_,h,by simp only[kv,e1,e2];exact db _ _⟩
   . rename_i e1 e2;exact⟨_,h,by simp only[kv,e1,e2];exact db _ _⟩
   . rename_i e1 e2;exact⟨_,h,by simp only[kv,e1,e2];exact db _ _⟩
   . exact h.elim
 . split at h
   . rename_i e1 e2;exact⟨_,h,by simp only[kv,e1,e2];exact db _ _⟩
   . exact h.elim
 . split at h
   . rename_i e1 e2;exact⟨_,h,by simp only[kv,e1,e2];exact db _ _⟩
   . rename_i e1 e2;exact⟨_,h,by simp only[kv,e1,e2];exact db _ _⟩
   . exact h.elim
 . split at h
   . rename_i e;exact⟨_,h,by simp only[kv,e];exact db _ _⟩
   . exact h.elim
 . exact h.elim
theorem Ik{t:TypeId}{parts:List (Nat×Operand)}(h:oh cx st t parts k):∃v,k v []/\oh cx st t parts (kF v []):=by
 unfold oh at h;split at h
 . rename_i e0;split at h
   . rename_i e1;split at h
     . rename_i e2 e3;exact⟨_,h,by simp only[oh,e0,e1,e2,e3];exact db _ _⟩
     . exact h.elim
   . exact h.elim
 . exact h.elim
theorem Ax{d:Option Nat}{t:TypeId}{l c:AV}{fl:Bool}(h:jE cx d t l c fl k):∃v bs,k v bs/\jE cx d t l c fl (kF v bs):=by
 unfold jE at h;split at h
 . rename_i e0;split at h
   . rename_i e1;obtain⟨h0,h1,h2,h3,h4,h⟩:=h;split at h
     . rename_i e2;exact⟨_,_,h,by simp only[jE,e0,e1];exact⟨h0,h1,h2,h3,h4,by simp only[e2];exact db _ _⟩⟩
     . exact h.elim
   . exact h.elim
 . exact h.elim
theorem Eh{g:FuncId}{args:List AV}(h:gq cx st g args k):∃v,k v []/\gq cx st g args (kF v []):=by
 unfold gq at h;split at h
 . split at h
   . rename_i e1 e2;split at h
     . rename_i e3;obtain⟨v,hF,h⟩:=h;exact⟨v,h,by simp only[gq,e1,e2,e3];exact⟨v,hF,db _ _⟩⟩
     . exact h.elim
   . exact h.elim
 . exact h.elim
theorem Ql{f:AV}{args:List AV}(h:fnK cx st f args k):∃v bs,k v bs/\fnK cx st f args (kF v bs):=by
 unfold fnK at h;split at h
 . rename_i e0;split at h
   . rename_i e4;obtain⟨v,h1,h2⟩:=Eh h;exact⟨v,[],h1,by simp only[fnK,e0,e4];exact h2⟩
   rename_i e4;split at h
   . rename_i e1;obtain⟨v,bs,hF,h⟩:=h;split at h
     . rename_i el;exact⟨v,bs,h,by simp only[fnK,e0,e4,e1];exact⟨v,bs,hF,by simp only[el];exact db _ _⟩⟩
     . exact h.elim
   . rename_i e1;split at h
     . rename_i e2;obtain⟨v,hF,hfl,h⟩:=h;exact⟨v,[],h,by simp only[fnK,e0,e4,e1,e2];exact⟨v,hF,hfl,db _ _⟩⟩
     . exact h.elim
 . exact h.elim
theorem AG{d:Option Nat}{ty:TypeId}{op:Op}(h:opK cx d ty st op k):∃v bs,k v bs/\(lp op=false->sU op=false->bs=[])/\opK cx d ty st op (kF v bs):=by
 cases op <;> simp only[opK]at h ⊢ <;> try (exact h.elim)
 case move x=>obtain⟨v,h1,h2⟩:=dR h;exact⟨v,[],h1,λ_ _=>rfl,h2⟩
 case assign x =>
  generalize Lt x=nb at h ⊢
  cases nb with
  |true=>exact⟨_,[],h,λ_ _=>rfl,db _ _⟩
  |false=>obtain⟨v,h1,h2⟩:=dR h;exact⟨v,[],h1,λ_ _=>rfl,h2⟩
 case pick c a b =>
  split at h
  . rename_i t e;cases t with
    |true=>obtain⟨v,h1,h2⟩:=dR h;exact⟨v,[],h1,λ_ _=>rfl,by(try simp only[e]);exact h2⟩
    |false=>obtain⟨v,h1,h2⟩:=dR h;exact⟨v,[],h1,λ_ _=>rfl,by(try simp only[e]);exact h2⟩
  . exact h.elim
 case alloc e =>
  split at h
  . rename_i e1 e2;exact⟨_,_,h,(λhm hc=>by first|(cases hm;done)|(cases hc;done)),by(try simp only[e2]);exact db _ _⟩
  . exact h.elim
 case box e x =>
  split at h
  . rename_i e1 e2;split at h
    . rename_i e3;split at h
      . rename_i e4;exact⟨_,_,h,(λhm hc=>by first|(cases hm;done)|(cases hc;done)),by(try simp only[e2,e3,e4]);exact db _ _⟩
      . exact h.elim
    . exact h.elim
  . exact h.elim
 case build t parts=>obtain⟨v,h1,h2⟩:=Ik h;exact⟨v,[],h1,λ_ _=>rfl,h2⟩
 case buildSlice t n parts =>
  split at h
  . rename_i e1 e2;split at h
    . rename_i e3;split at h
      . rename_i e4 e5 e6 e7;exact⟨_,_,h,(λhm hc=>by first|(cases hm;done)|(cases hc;done)),by(try simp only[e2,e3,e4,e5,e6,e7]);exact db _ _⟩
      . rename_i e4 e5 e6 e7;exact⟨_,_,h,(λhm hc=>by first|(cases hm;done)|(cases hc;done)),by(try simp only[e2,e3,e4,e5,e6,e7]);exact db _ _⟩
      . exact h.elim
    . rename_i e3;split at h
      . rename_i e3';split at h
        . rename_i e4 e5 e6;exact⟨_,_,h,(λhm hc=>by first|(cases hm;done)|(cases hc;done)),by(try simp only[e2,e3,e3',e4,e5,e6]);exact db _ _⟩
        . exact h.elim
      . exact h.elim
  . exact h.elim
 case load t x=>obtain⟨v,h1,h2⟩:=LD h;exact⟨v,[],h1,λ_ _=>rfl,h2⟩
 case nilCheck x =>
  split at h
  . rename_i e;exact⟨_,_,h,λ_ _=>rfl,by(try simp only[e]);exact db _ _⟩
  . rename_i e;exact⟨_,_,h,λ_ _=>rfl,by(try simp only[e]);exact db _ _⟩
  . rename_i e;exact⟨_,_,h,λ_ _=>rfl,by(try simp only[e]);exact db _ _⟩
  . rename_i e;exact⟨_,_,h,λ_ _=>rfl,by(try simp only[e]);exact db _ _⟩
  . rename_i e;exact⟨_,_,h,λ_ _=>rfl,by(try simp only[e]);exact db _ _⟩
  . exact h.elim
 case binOp =>
  split at h
  . rename_i e;exact⟨_,[],h.2,λ_ _=>rfl,by(try simp only[e]);exact⟨h.1,db _ _⟩⟩
  . rename_i e;obtain⟨v,h1,h2⟩:=dR h;exact⟨v,[],h1,λ_ _=>rfl,by(try simp only[e]);exact h2⟩
 case unOp=>obtain⟨v,h1,h2⟩:=dR h;exact⟨v,[],h1,λ_ _=>rfl,h2⟩
 case convert=>obtain⟨v,h1,h2⟩:=dR h;exact⟨v,[],h1,λ_ _=>rfl,h2⟩
 case makeFunc fn a b =>
  split at h
  . exact⟨_,_,h,λ_ _=>rfl,db _ _⟩
  . exact h.elim
 case makeMap t r =>
  split at h
  . rename_i e1 e2 e3;exact⟨_,_,h,(λhm hc=>by first|(cases hm;done)|(cases hc;done)),by(try simp only[e2,e3]);exact db _ _⟩
  . rename_i e1 e2 e3;exact⟨_,_,h,(λhm hc=>by first|(cases hm;done)|(cases hc;done)),by(try simp only[e2,e3]);exact db _ _⟩
  . exact h.elim
 case makeSlice t l c=>obtain⟨v,bs,h1,h2⟩:=Ax h;exact⟨v,bs,h1,(λhm hc=>by first|(cases hm;done)|(cases hc;done)),h2⟩
 case slice t x lo hi mx =>
  cases mx with
  |none=>obtain⟨v,h1,h2⟩:=Nn h;exact⟨v,[],h1,λ_ _=>rfl,h2⟩
  |some _=>exact h.elim
 case fieldAddr=>obtain⟨v,h1,h2⟩:=dR h;exact⟨v,[],h1,λ_ _=>rfl,h2⟩
 case field=>obtain⟨v,h1,h2⟩:=dR h;exact⟨v,[],h1,λ_ _=>rfl,h2⟩
 case indexAddr=>obtain⟨v,h1,h2⟩:=Ap h;exact⟨v,[],h1,λ_ _=>rfl,h2⟩
 case index=>obtain⟨v,h1,h2⟩:=IU h;exact⟨v,[],h1,λ_ _=>rfl,h2⟩
 case lookup=>obtain⟨v,h1,h2⟩:=FQ h;exact⟨v,[],h1,λ_ _=>rfl,h2⟩
 case extract=>obtain⟨v,h1,h2⟩:=dR h;exact⟨v,[],h1,λ_ _=>rfl,h2⟩
 case call c =>
  obtain⟨cal,args,ts⟩:=c;cases cal with
  |value f=>obtain⟨v,bs,h1,h2⟩:=Ql h;exact⟨v,bs,h1,(λhm hc=>by first|(cases hm;done)|(cases hc;done)),h2⟩
  |invoke r m=>exact h.elim
  |builtin b =>
   cases b <;> simp only[sD]at h ⊢ <;> try (exact h.elim)
   split at h
   . rename_i e1 e2;obtain⟨v,h1,h2⟩:=Og h;exact⟨v,[],h1,λ_ _=>rfl,by(try simp only[e1,e2]);exact h2⟩
   . exact h.elim
end
abbrev Ent:=Option Nat×AV×List (Nat×Blk)
def fb:List Ent->St->St
 |[],st=>st
 |e::t,st=>fb t (st.put e.1 e.2.1 e.2.2)
def eZ(ops:List Oper)(S:St)(o:Oper)(b:Bool):Prop :=
 match o.guard with
 |none=>b=true
 |some (g,want)=> ∃og d,ops[g]? =some og/\og.dst=some d/\((S.get d= .d (.bool want)/\b=true)\/(S.get d= .d (.bool (!want))/\b=false)\/(S.get d= .tuple []/\b=false))
theorem lT{ops:List Oper}{S:St}{o:Oper}{yes no:Prop}(h:ia ops S o yes no):(eZ ops S o true/\yes)\/(eZ ops S o false/\no):=by
 unfold ia at h;unfold eZ;split at h
 . rename_i hg;(try rw[hg]);exact .inl ⟨rfl,h⟩
 . rename_i g want hg
   (try rw[hg])
   split at h
   . rename_i og hog;split at h
     . rename_i d hd;split at h
       . rename_i b hb;cases want <;> cases b <;> simp only[qv]at h
         . exact .inl ⟨⟨og,d,hog,hd,.inl ⟨hb,rfl⟩⟩,h⟩
         . exact .inr ⟨⟨og,d,hog,hd,.inr (.inl ⟨hb,rfl⟩)⟩,h⟩
         . exact .inr ⟨⟨og,d,hog,hd,.inr (.inl ⟨hb,rfl⟩)⟩,h⟩
         . exact .inl ⟨⟨og,d,hog,hd,.inl ⟨hb,rfl⟩⟩,h⟩
       . rename_i hb;exact .inr ⟨⟨og,d,hog,hd,.inr (.inr ⟨hb,rfl⟩)⟩,h⟩
       . exact h.elim
     . exact h.elim
   . exact h.elim
theorem fy{cx:Cx}{E:Env}{ops:Array Oper}{S st:St}{o:Oper}{b:Bool}(h:eZ ops.toList S o b)(hl:∀d∈looks ops.toList o,st.get d=S.get d){a:Act}{w:World}(hs:Sim cx E st a w):Region.wanted o (yielded ops a.tmps)=b:=by
 obtain⟨σ,hs⟩:=hs;unfold eZ at h;unfold Region.wanted;cases hg:o.guard with
 |none=>rw[hg]at h;exact h.symm
 |some p =>
  obtain⟨g,want⟩:=p;rw[hg]at h;obtain⟨og,d,h1,h2,h3⟩:=h;have hmem:d∈looks ops.toList o:=by unfold looks;rw[hg];simp only[h1,h2];simp
  have hj:ops[g]? =some og:=by rw[<- aW];exact h1
  have hr:=hs.slots d;rw[hl d hmem]at hr;dsimp only;rcases h3 with ⟨e,rfl⟩|⟨e,rfl⟩|⟨e,rfl⟩
  . rw[e]at hr;rw[qt hj h2 hr.bool];simp
  . rw[e]at hr;rw[qt hj h2 hr.bool];cases want <;> rfl
  . rw[e]at hr;have hv:a.tmps.getD d Go.undef= .tuple #[]:=by
     generalize a.tmps.getD d Go.undef=u at hr
     cases hr with|tuple _ vs hl _=>rw[Array.eq_empty_of_size_eq_zero hl]
    rw[vx hj h2 hv];simp
def Good(cx:Cx)(nt:Nat)(ops:List Oper)(o:Oper)(S:St)(e:Ent):Prop :=
 cM nt o.dst=true/\e.1=o.dst/\(∀s,live e.2.2 s-> ¬live S.heap s)/\(lp o.op=false->e.2.2=[]) /\
 ((eZ ops S o true/\ ∀R:St,(∀x∈o.op.operands.toList,S.ev cx x=R.ev cx x)->(kU o.op=true->S.heap=R.heap)->(∀t x,o.op= .load t x-> ∀s,jT (S.ev cx x)=some s->find R.heap s=find S.heap s)->cr cx o R e.2.1 e.2.2)\/(eZ ops S o false/\e.2.1= .tuple []/\e.2.2=[]))
theorem Lk{cx:Cx}{nt:Nat}(hT:ba cx){ops:List Oper}{o:Oper}{S:St}{K:St->Prop}(he:Cq cx.chg o.op=false)
 (h:ia ops S o (iX cx nt true o S K) (match cM nt o.dst with|true=>K (S.put o.dst (.tuple []) [])|false=>False)):∃e,Good cx nt ops o S e/\K (S.put e.1 e.2.1 e.2.2):=by
 rcases lT h with ⟨hw,h⟩|⟨hw,h⟩
 . unfold iX at h;rw[he]at h;split at h
   . rename_i h1 h2;cases h2
   . rename_i hd _;have h' :∃v bs,(∀R:St,(∀x∈o.op.operands.toList,S.ev cx x=R.ev cx x)->(kU o.op=true->S.heap=R.heap)->(∀t x,o.op= .load t x-> ∀s,jT (S.ev cx x)=some s->find R.heap s=find S.heap s)->cr cx o R v bs)/\(lp o.op=false->sU o.op=false->bs=[])/\(match Nb true o.op bs,pQ S.heap bs with|true,true=>K (S.put o.dst v bs)|_,_=>False):=by
      obtain⟨v,bs,hk,hm,hj⟩:=AG h;refine⟨v,bs,λR hx hr hr3=>?_,hm,hk⟩;rw[Bu hx hr hr3]at hj;obtain⟨v',bs',ho,rfl,rfl⟩:=qf hT hj;exact ho
     obtain⟨v,bs,h1,h2,h3⟩:=h';split at h3
     . rename_i hb hf;have hbs:lp o.op=false->bs=[]:=λhmk=>by
        cases hc:sU o.op with
        |false=>exact h2 hmk hc
        |true =>
         cases bs with
         |nil=>rfl
         |cons x t=>simp[Nb,hc]at hb
       exact⟨(o.dst,v,bs),⟨hd,rfl,qG hf,hbs,.inl ⟨hw,h1⟩⟩,h3⟩
     . exact h3.elim
   . exact h.elim
 . split at h
   . rename_i hd;exact⟨(o.dst,.tuple [],[]),⟨hd,rfl,λs hl=>by simp[live,find]at hl,λ_=>rfl,.inr ⟨hw,rfl,rfl⟩⟩,h⟩
   . exact h.elim
theorem tM(l m:List Ent)(st:St):fb (l++m) st=fb m (fb l st):=by
 induction l generalizing st with
 |nil=>rfl
 |cons e t ih=>exact ih _
def ss(cx:Cx)(nt:Nat)(ops:List Oper)(st0:St)(res:List Ent)(n:Nat):Prop :=
 ∀j,j<n-> ∃o e,ops[j]? =some o/\res[j]? =some e/\Good cx nt ops o (fb (res.take j) st0) e
theorem trace{cx:Cx}{nt:Nat}(hT:ba cx){ops:List Oper}{st0:St}{k:St->Prop}:∀(r i:Nat) (res:List Ent),i+r=cm cx.chg ops->res.length=i->ss cx nt ops st0 res i->oP cx nt true ops (ops.drop i) k (fb res st0) ->
 ∃res',res'.length=cm cx.chg ops/\ss cx nt ops st0 res' (cm cx.chg ops)/\oP cx nt true ops (ops.drop (cm cx.chg ops)) k (fb res' st0):=by
 intro r;induction r with
 |zero =>
  intro i res hi hl hg h;obtain rfl:i=cm cx.chg ops:=by omega
  exact⟨res,hl,hg,h⟩
 |succ r ih =>
  intro i res hi hl hg h;obtain⟨o,ho,he⟩:=DK (mt:=cx.chg) (l:=ops) (i:=i) (by omega);have hlt:i<ops.length:=(aq.1 ho).1;have hdrop:ops.drop i=o::ops.drop (i+1):=by
   rw[List.drop_eq_getElem_cons hlt]
   congr 1
   exact(aq.1 ho).2
  rw[hdrop]at h;simp only[oP]at h;obtain⟨e,hgood,hk⟩:=Lk hT he h;refine ih (i+1) (res++[e]) (by omega) (by simp[hl]) (λj hj=>?_) (by rw[tM];exact hk);by_cases hji:j<i
  . obtain⟨o',e',h1,h2,h3⟩:=hg j hji;refine⟨o',e',h1,by rw[cq (by omega)];exact h2,?_⟩;rw[List.take_append_of_le_length (by omega)];exact h3
  . obtain rfl:j=i:=by omega
    refine⟨o,e,ho,by rw[bX (by omega),hl];simp,?_⟩;rw[List.take_append_of_le_length (by omega),List.take_of_length_le (by omega)];exact hgood
structure At(st0:St)(res:List Ent)(L:Nat->Bool)(st:St):Prop where
 slot:∀t,(∃j e,L j=true/\res[j]? =some e/\e.1=some t/\st.get t=e.2.1)\/((∀j e,L j=true->res[j]? =some e->e.1≠some t)/\st.get t=st0.get t)
 heap:∀s,(∃j e b,L j=true/\res[j]? =some e/\find e.2.2 s=some b/\find st.heap s=some b)\/((∀j e,L j=true->res[j]? =some e-> ¬live e.2.2 s)/\find st.heap s=find st0.heap s)
theorem At.step{st0:St}{res:List Ent}{L L' :Nat->Bool}{st:St}(h:At st0 res L st){i:Nat}{e:Ent}(he:res[i]? =some e)(hL:∀j,L' j=true ↔ (L j=true\/j=i)):At st0 res L' (st.put e.1 e.2.1 e.2.2):=by
 refine⟨λt=>?_,λs=>?_⟩
 . rw[St.eV];by_cases ht:e.1=some t
   . rw[if_pos ht];exact .inl ⟨i,e,(hL i).2 (.inr rfl),he,ht,rfl⟩
   . rw[if_neg ht];rcases h.slot t with ⟨j,e',h1,h2,h3,h4⟩|⟨h1,h2⟩
     . exact .inl ⟨j,e',(hL j).2 (.inl h1),h2,h3,h4⟩
     . refine .inr ⟨λj e' hj he' =>?_,h2⟩;rcases (hL j).1 hj with hj|rfl
       . exact h1 j e' hj he'
       . rw[he]at he';cases he';exact ht
 . show _\/(_/\find (e.2.2++st.heap) s=_)
   have hfind:find (st.put e.1 e.2.1 e.2.2).heap s=(find e.2.2 s).or (find st.heap s):=rp _ _ _;cases hb:find e.2.2 s with
   |some b=>exact .inl ⟨i,e,b,(hL i).2 (.inr rfl),he,hb,by rw[hfind,hb];rfl⟩
   |none =>
    rw[hb]at hfind;have hfind' :find (st.put e.1 e.2.1 e.2.2).heap s=find st.heap s:=by simpa using hfind
    rcases h.heap s with ⟨j,e',b,h1,h2,h3,h4⟩|⟨h1,h2⟩
    . exact .inl ⟨j,e',b,(hL j).2 (.inl h1),h2,h3,hfind'.trans h4⟩
    . refine .inr ⟨λj e' hj he' =>?_,hfind'.trans h2⟩;rcases (hL j).1 hj with hj|rfl
      . exact h1 j e' hj he'
      . rw[he]at he';cases he';unfold live;rw[hb];simp
theorem CV{st0:St}{res:List Ent}:∀(i:Nat),i<=res.length->At st0 res (λj=>decide (j<i)) (fb (res.take i) st0):=by
 intro i;induction i with
 |zero=>intro _;exact⟨λt=> .inr ⟨λj e hj=>by simp at hj,rfl⟩,λs=> .inr ⟨λj e hj=>by simp at hj,rfl⟩⟩
 |succ i ih =>
  intro hi;have hg:res[i]? =some res[i]:=aj (by omega);rw[List.take_succ_eq_append_getElem (by omega),tM];exact(ih (by omega)).step hg (λj=>by simp;omega)
theorem uC{f:Nat->AV}:∀{l:List Nat} {t:Nat},find (l.map λx=>(x,f x)) t=if t∈l then some (f t)else none
 |[],t=>by simp[find]
 |x::l,t=>by
  rw[List.map_cons];by_cases h:x=t
  . subst h;rw[aP];simp
  . rw[aQ _ _ h,uC];simp[show ¬t=x from λe=>h e.symm]
section
variable {cx:Cx} {nt:Nat} {ops:List Oper} {st0:St} {res:List Ent} {cl:Nat->List Nat} {m:Nat}
theorem km(hg:ss cx nt ops st0 res m)(hl:res.length=m){j:Nat}{e:Ent}{s:Nat}(hj:j<m)(he:res[j]? =some e)(hs:live e.2.2 s):(∀j' e',j' <j->res[j']? =some e' -> ¬live e'.2.2 s)/\ ¬live st0.heap s:=by
 obtain⟨o,e0,_,h2,_,_,h5,_⟩:=hg j hj;rw[he]at h2;cases h2;have hfree:=h5 s hs;have hat:=(CV (st0:=st0) (res:=res) j (by omega)).heap s;rcases hat with ⟨j1,e1,b,_,_,_,h4⟩|⟨h1,h2⟩
 . exact absurd (ax.2 ⟨b,h4⟩) hfree
 . refine⟨λj' e' hlt he' =>h1 j' e' (by simpa using hlt) he',λhl0=>hfree ?_⟩;unfold live at hl0 ⊢;rw[h2];exact hl0
theorem qV(hg:ss cx nt ops st0 res m)(hl:res.length=m){j j' :Nat}{e e' :Ent}{s:Nat}(he:res[j]? =some e)(he' :res[j']? =some e')(hs:live e.2.2 s)(hs' :live e'.2.2 s):j=j' :=by
 have hj:j<m:=by rw[<- hl];exact(aq.1 he).1
 have hj' :j' <m:=by rw[<- hl];exact(aq.1 he').1
 rcases Nat.lt_trichotomy j j' with h|h|h
 . exact absurd hs ((km hg hl hj' he' hs').1 j e h he)
 . exact h
 . exact absurd hs' ((km hg hl hj he hs).1 j' e' h he')
theorem uq(hg:ss cx nt ops st0 res m){j:Nat}{e:Ent}(hj:j<m)(he:res[j]? =some e):∃o,ops[j]? =some o/\e.1=o.dst/\(lp o.op=false->e.2.2=[]):=by
 obtain⟨o,e0,h1,h2,_,h4,_,h6,_⟩:=hg j hj;rw[he]at h2;cases h2;exact⟨o,h1,h4,h6⟩
theorem EH(hp:ML ops cl m)(hg:ss cx nt ops st0 res m)(hl:res.length=m){j j' :Nat}{e e' :Ent}{t:Nat}(he:res[j]? =some e)(he' :res[j']? =some e')(hs:e.1=some t)(hs' :e'.1=some t):j=j' :=by
 have hj:j<m:=by rw[<- hl];exact(aq.1 he).1
 have hj' :j' <m:=by rw[<- hl];exact(aq.1 he').1
 obtain⟨o,h1,h2,_⟩:=uq hg hj he;obtain⟨o',h1',h2',_⟩:=uq hg hj' he';rcases Nat.decEq j j' with hne|h
 . exact absurd (h2 ▸ hs) (hp.dst j o h1 hj j' o' t h1' hj' hne (h2' ▸ hs'))
 . exact h
theorem agree(hp:ML ops cl m)(hg:ss cx nt ops st0 res m)(hl:res.length=m){L:Nat->Bool}{st:St}(hat:At st0 res L st)(hdown:∀j,L j=true-> ∀x∈cl j,L x=true){i:Nat}{o:Oper}(hi:i<m)(ho:ops[i]? =some o)(hiL:L i=false)
 (hcl:∀x∈cl i,L x=true) :
 (∀d∈looks ops o,st.get d=(fb (res.take i) st0).get d)/\(kU o.op=true-> ∀s b,find (fb (res.take i) st0).heap s=some b->find st.heap s=some b)/\(∀s b,live st.heap s->find (fb (res.take i) st0).heap s=some b->find st.heap s=some b):=by
 have hseq:=CV (st0:=st0) (res:=res) i (by omega);have lt_m:∀{j:Nat} {e:Ent},res[j]? =some e->j<m:=λh=>by rw[<- hl];exact(aq.1 h).1
 refine⟨λd hd=>?_,λhr s b hs=>?_,λs b hlv hs=>?_⟩
 . rcases hat.slot d with ⟨j,e,h1,h2,h3,h4⟩|⟨h1,h2⟩
   . have hj:=lt_m h2;obtain⟨oj,ho1,ho2,_⟩:=uq hg hj h2;have hne:i≠j:=λe=>by subst e;rw[hiL]at h1;cases h1
     have hlook:=hp.look i o ho hi j oj d ho1 hj hne (ho2 ▸ h3) hd;have hji:j<i:=by
      rcases Nat.lt_trichotomy i j with h|h|h
      . have:=hdown j h1 i (hlook.2 h);rw[hiL]at this;cases this
      . exact absurd h hne
      . exact h
     rcases hseq.slot d with ⟨j',e',q1,q2,q3,q4⟩|⟨q1,_⟩
     . obtain rfl:=EH hp hg hl h2 q2 h3 q3;rw[h2]at q2;cases q2;rw[h4,q4]
     . exact absurd h3 (q1 j e (by simpa using hji) h2)
   . rcases hseq.slot d with ⟨j',e',q1,q2,q3,q4⟩|⟨_,q2⟩
     . have hj' :=lt_m q2;obtain⟨oj,ho1,ho2,_⟩:=uq hg hj' q2;have hlt:j' <i:=by simpa using q1
       have:=hcl j' ((hp.look i o ho hi j' oj d ho1 hj' (by omega) (ho2 ▸ q3) hd).1 hlt);exact absurd q3 (h1 j' e' this q2)
     . rw[h2,q2]
 . rcases hseq.heap s with ⟨j,e,b',h1,h2,h3,h4⟩|⟨h1,h2⟩
   . rw[h4]at hs;cases hs;have hj:=lt_m h2;have hlt:j<i:=by simpa using h1
     obtain⟨oj,ho1,_,ho3⟩:=uq hg hj h2;have hmk:lp oj.op=true:=by
      cases hm:lp oj.op with
      |true=>rfl
      |false=>rw[ho3 hm]at h3;cases h3
     have hLj:=hcl j (hp.read i o ho hi j oj ho1 hlt hr hmk);rcases hat.heap s with ⟨j',e',b'',q1,q2,q3,q4⟩|⟨q1,_⟩
     . obtain rfl:=qV hg hl h2 q2 (ax.2 ⟨b,h3⟩) (ax.2 ⟨b'',q3⟩);rw[h2]at q2;cases q2;rw[h3]at q3;cases q3;exact q4
     . exact absurd (ax.2 ⟨b,h3⟩) (q1 j e hLj h2)
   . rw[h2]at hs;rcases hat.heap s with ⟨j',e',b'',q1,q2,q3,_⟩|⟨_,q2⟩
     . exact absurd (ax.2 ⟨b,hs⟩) (km hg hl (lt_m q2) q2 (ax.2 ⟨b'',q3⟩)).2
     . rw[q2];exact hs
 . rcases hseq.heap s with ⟨j,e,b',h1,h2,h3,h4⟩|⟨h1,h2⟩
   . rw[h4]at hs;cases hs;rcases hat.heap s with ⟨j',e',b'',q1,q2,q3,q4⟩|⟨q1,q2⟩
     . obtain rfl:=qV hg hl h2 q2 (ax.2 ⟨b,h3⟩) (ax.2 ⟨b'',q3⟩);rw[h2]at q2;cases q2;rw[h3]at q3;cases q3;exact q4
     . refine absurd ?_ (km hg hl (lt_m h2) h2 (ax.2 ⟨b,h3⟩)).2;unfold live at hlv ⊢;rw[<- q2];exact hlv
   . rw[h2]at hs;rcases hat.heap s with ⟨j',e',b'',q1,q2,q3,_⟩|⟨_,q2⟩
     . exact absurd (ax.2 ⟨b,hs⟩) (km hg hl (lt_m q2) q2 (ax.2 ⟨b'',q3⟩)).2
     . rw[q2];exact hs
end
def tn(cx:Cx)(S:St)(o:Oper):List (Nat×Blk) :=
 match o.op with
 | .load _ x=>(match jT (S.ev cx x)with|some s=>(match find S.heap s with|some b=>[(s,b)]|none=>[])|none=>[])
 |op=>if kU op then S.heap else[]
theorem Jw{cx:Cx}{S:St}{o:Oper}(h:kU o.op=true):tn cx S o=S.heap:=by
 unfold tn;split
 . rename_i e;rw[e]at h;cases h
 . rename_i op _;exact if_pos h
theorem Jv{cx:Cx}{S:St}{o:Oper}{t:TypeId}{x:Operand}(h:o.op= .load t x){s:Nat}(hs:jT (S.ev cx x)=some s):find (tn cx S o) s=find S.heap s:=by
 unfold tn;rw[h];simp only[hs];split
 . rename_i b hb;rw[aP,hb]
 . rename_i hb;rw[hb];rfl
theorem Ju{cx:Cx}{S:St}{o:Oper}{s:Nat}{b:Blk}(h:find (tn cx S o) s=some b):find S.heap s=some b/\(kU o.op=true\/ ∃t x,o.op= .load t x/\jT (S.ev cx x)=some s):=by
 unfold tn at h;split at h
 . rename_i t x e;split at h
   . rename_i s' hs;split at h
     . rename_i b' hb;by_cases e' :s' =s
       . subst e';rw[aP]at h;cases h;exact⟨hb,.inr ⟨t,x,e,hs⟩⟩
       . rw[aQ _ _ e']at h;cases h
     . cases h
   . cases h
 . split at h
   . rename_i hr;exact⟨h,.inl hr⟩
   . cases h
theorem Mf{cx:Cx}{E:Env}{S st:St}{a:Act}{w:World}(hs:Sim cx E st a w){x:Operand}{s:Nat}(h:jT (S.ev cx x)=some s)(hx:∀t,x= .tmp t->st.get t=S.get t):live st.heap s:=by
 obtain⟨σ,hs⟩:=hs;cases x with
 |tmp t =>
  have hr:=hs.slots t;rw[hx t rfl]at hr;have h' :jT (S.get t)=some s:=h;generalize S.get t=v at hr h';generalize a.tmps.getD t Go.undef=u at hr;cases hr <;> first|(cases h';assumption)|cases h'
 |const v =>
  exfalso
  have h' :jT (ofConst v)=some s:=h;unfold ofConst at h';split at h'
  . cases h'
  . unfold mo at h';split at h' <;> cases h'
 |global g =>
  exfalso
  have h' :jT (match cx.gl g with|some cells=>AV.d (.ptr cells)|none=> .undef)=some s:=h;split at h' <;> cases h'
 |func f=>cases h
theorem yn{p p' :Nat->Bool}(h:∀j,p' j=true->p j=true){i:Nat}(h1:p i=true)(h2:p' i=false):∀{l:List Nat},i∈l->(l.filter p').length<(l.filter p).length:=by
 have hle:∀l:List Nat,(l.filter p').length<=(l.filter p).length:=by
  intro l;induction l with
  |nil=>simp
  |cons x t ih =>
   simp only[List.filter_cons];cases hx:p' x with
   |true=>rw[h x hx];simp;exact ih
   |false=>cases p x <;> simp <;> omega
 intro l;induction l with
 |nil=>intro hm;cases hm
 |cons x t ih =>
  intro hm;simp only[List.filter_cons];rcases List.mem_cons.1 hm with rfl|hm
  . rw[h1,h2];simp;have:=hle t;omega
  . have:=ih hm;cases hx:p' x with
    |true=>rw[h x hx];simp;exact this
    |false=>cases p x <;> simp <;> omega
theorem eW{ops:Array Oper}{listed:Array Bool}(hsz:listed.size=ops.size){i:Nat}:i∈Region.ready .any ops listed ↔ ∃o,ops.toList[i]? =some o/\listed.getD i false=false/\ ∀e∈eK o,listed.getD e false=true:=by
 unfold Region.ready;simp only[List.mem_filter,List.mem_range,aH];constructor
 . rintro⟨hi,h1,h2⟩;have ho:ops[i]? =some ops[i]:=Array.getElem?_eq_getElem hi;refine⟨ops[i],by rw[aW];exact ho,?_,λe he=>?_⟩
   . have hi' :i<listed.size:=by omega
     simp[hi']at h1 ⊢;exact h1
   . rw[ho]at h2;simp only[Option.map_some,Option.getD_some,Array.all_eq_true_iff_forall_mem]at h2;obtain⟨x,hx,rfl⟩:=List.mem_map.1 he;obtain⟨hx1,hx2⟩:=List.mem_filter.1 hx;have:=h2 x (by simpa using hx1);simpa [hx2] using this
 . rintro⟨o,ho,h1,h2⟩;have hi:i<ops.size:=by have:=(aq.1 ho).1;simpa using this
   have hi' :i<listed.size:=by omega
   refine⟨hi,by simp[hi']at h1 ⊢;exact h1,?_⟩;rw[aW]at ho;rw[ho];simp only[Option.map_some,Option.getD_some,Array.all_eq_true_iff_forall_mem];intro x hx;cases hb:Region.binds .any x with
   |false=>simp
   |true =>
    have:=h2 x.on (List.mem_map.2 ⟨x,List.mem_filter.2 ⟨by simpa using hx,hb⟩,rfl⟩);simpa using this
def yY(Q:Exit->Act->World->Prop):Exit->Act->World->Prop
 | .normal,a,w=>Q .normal a w
 |_,_,_=>False
theorem FK{P:Program}{o:Oper}(hl:DX o.op=true){a:Act}{w:World}{K:Act->World->Prop}(h:o.wp P a w K λ_ _ _=>False):∃z,(∀w',(execOp a.eval o).run P w' = .ok (.value z) w')/\K (a.put o.dst z) w:=by
 cases ho:o.op <;> rw[ho]at hl <;> try (cases hl;done)
 case extract x i =>
  unfold Oper.wp at h;have hex:∀w',(execOp a.eval o).run P w' =(do let v <- Instr.extract (a.eval x) i;pure (.value v):Sem Next).run P w' :=λw' =>by simp only[execOp,ho]
  rw[hex]at h;unfold Instr.extract at h hex;split at h
  . rename_i vs;split at h
    . rename_i v hv;refine⟨v,λw' =>?_,?_⟩
      . rw[hex w'];simp_all
      . simpa [Oper.upon] using h
    . simp[Oper.upon,Sem.run,stuck]at h
  . simp[Oper.upon,Sem.run,stuck]at h
 case move x =>
  unfold Oper.wp at h;simp only[execOp,ho]at h ⊢;exact⟨a.eval x,λw' =>rfl,by simpa [Oper.upon] using h⟩
theorem KW{cx:Cx}{nt:Nat}(hT:ba cx){ops:Array Oper}{E:Env}(hn:E.nt=nt){Q:Exit->Act->World->Prop}{k:St->Prop}{st:St}{a:Act}{w:World}(h:ID cx nt ops.toList k st)(hs:Sim cx E st a w)
 (hQ:∀st' a' w',k st' ->Sim cx E st' a' w' ->Q .normal a' w'):wpAny cx.P .any ops (yY Q) ops.size (Array.replicate ops.size false) a {w with drawn:=w.drawn+1}:=by
 replace hQ:∀st' a' w',k st' ->Sim cx E st' a' w' ->yY Q .normal a' w' :=hQ;have hQp:∀c a w,¬yY Q (.panic c) a w:=λc a w h=>h
 generalize yY Q=Q at hQ hQp ⊢
 obtain⟨hplan,hseq⟩:=h;obtain⟨cl,hp⟩:=QV hplan;obtain⟨res,hl,hg,htail⟩:=trace (cx:=cx) (nt:=nt) (ops:=ops.toList) (st0:=st) (k:=k) hT (cm cx.chg ops.toList) 0 [] (by omega) rfl (λj hj=>by omega) (by simpa [fb] using hseq);have hmn:cm cx.chg ops.toList<=ops.size:=by simpa using DJ (mt:=cx.chg) ops.toList
 have hs0:Sim cx E st a {w with drawn:=w.drawn+1}:=by
  obtain⟨σ,hs⟩:=hs;have hk:aU w {w with drawn:=w.drawn+1} (Own E.O (live st.heap) σ) (Own E.O (live st.heap) σ):=⟨Nat.le_refl _,λ_ _ _=>rfl,λ_ h _=>h⟩
  have hss:∀s,live st.heap s->live st.heap s/\σ s=σ s:=λs h=>⟨h,rfl⟩
  exact⟨σ,⟨hs.frame.os,hs.frame.tape,hs.frame.output,hs.frame.size,hs.frame.block⟩,hs.new,hs.apart,hs.defers,hs.nt,λt=>(hs.slots t).mono hk hss,
   ⟨λs b hb=>cw.mono hk hss (ax.2 ⟨b,hb⟩) (λ_ _=>rfl) (hs.holds.blk s b hb),hs.holds.inj⟩,hs.glob,hs.globF,hs.fix⟩
 have getSet:∀(listed:Array Bool) (i j:Nat),i<listed.size->(listed.setIfInBounds i true).getD j false=if j=i then true else listed.getD j false:=by
  intro listed i j hi;simp only[bp];by_cases e:j=i
  . subst e;simp[hi]
  . rw[if_neg e,Array.getElem?_setIfInBounds_ne (λh=>e h.symm)]
 let Ph1 (listed:Array Bool) (a:Act) (w:World):Prop:= ∃s,(∀j,cm cx.chg ops.toList<=j->listed.getD j false=false)/\At st res (λj=>listed.getD j false) s/\Sim cx E s a w
 let Ph2 (listed:Array Bool) (a:Act) (w:World):Prop:= ∃q s,cm cx.chg ops.toList<=q/\q<=ops.size/\(∀j,listed.getD j false=decide (j<q))/\oP cx nt true ops.toList (ops.toList.drop q) k s/\Sim cx E s a w
 have norm:∀(listed:Array Bool) (a:Act) (w:World),Ph1 listed a w->(∀j,j<cm cx.chg ops.toList->listed.getD j false=true)->Ph2 listed a w:=by
  rintro listed a w ⟨s,h1,hat,hs⟩ hall;refine⟨cm cx.chg ops.toList,fb res st,Nat.le_refl _,hmn,λj=>?_,htail,?_⟩
  . by_cases hj:j<cm cx.chg ops.toList
    . rw[hall j hj];simp[hj]
    . rw[h1 j (by omega)];simp[hj]
  . have hseq:=CV (st0:=st) (res:=res) (cm cx.chg ops.toList) (by omega);rw[List.take_of_length_le (by omega)]at hseq;have lt_m:∀{j:Nat} {e:Ent},res[j]? =some e->j<cm cx.chg ops.toList:=λh=>by rw[<- hl];exact(aq.1 h).1
    refine hs.ext (λt=>?_) (λx=>?_)
    . rcases hat.slot t with ⟨j,e,q1,q2,q3,q4⟩|⟨q1,q2⟩ <;> rcases hseq.slot t with ⟨j',e',r1,r2,r3,r4⟩|⟨r1,r2⟩
      . obtain rfl:=EH hp hg hl q2 r2 q3 r3;rw[q2]at r2;cases r2;rw[q4,r4]
      . exact absurd q3 (r1 j e (by simpa using lt_m q2) q2)
      . exact absurd r3 (q1 j' e' (hall j' (lt_m r2)) r2)
      . rw[q2,r2]
    . rcases hat.heap x with ⟨j,e,b,q1,q2,q3,q4⟩|⟨q1,q2⟩ <;> rcases hseq.heap x with ⟨j',e',b',r1,r2,r3,r4⟩|⟨r1,r2⟩
      . obtain rfl:=qV hg hl q2 r2 (ax.2 ⟨b,q3⟩) (ax.2 ⟨b',r3⟩);rw[q2]at r2;cases r2;rw[q3]at r3;cases r3;rw[q4,r4]
      . exact absurd (ax.2 ⟨b,q3⟩) (r1 j e (by simpa using lt_m q2) q2)
      . exact absurd (ax.2 ⟨b',r3⟩) (q1 j' e' (hall j' (lt_m r2)) r2)
      . rw[q2,r2]
 have done:∀(listed:Array Bool) (a:Act) (w:World),(Ph1 listed a w\/Ph2 listed a w)->(∀j,j<ops.size->listed.getD j false=true)->Q .normal a w:=by
  intro listed a w hph hall;have h2:Ph2 listed a w:=hph.elim (λh=>norm listed a w h λj hj=>hall j (by omega)) (λh=>h);obtain⟨q,s,h1,h2,h3,h4,h5⟩:=h2;have hq:q=ops.size:=by
   rcases Nat.lt_or_ge q ops.size with hlt|hge
   . have:=hall q hlt;rw[h3 q]at this;simp at this
   . omega
  rw[List.drop_of_length_le (by simp;omega)]at h4;exact hQ s a w h4 h5
 have prog:∀(listed:Array Bool),listed.size=ops.size->Region.ready .any ops listed=[]-> ∀j,j<ops.size->listed.getD j false=true:=by
  intro listed hsz hr j;induction j using Nat.strongRecOn with
  |_ j ih =>
   intro hj;cases hlj:listed.getD j false with
   |true=>rfl
   |false =>
    have ho:ops.toList[j]? =some ops[j]:=by rw[aW];exact Array.getElem?_eq_getElem hj
    have:j∈Region.ready .any ops listed:=(eW hsz).2 ⟨ops[j],ho,hlj,λe he=>by
     have:=(hp.edge j _ ho e he).1;exact ih e this (by omega)⟩
    rw[hr]at this;cases this
 have stepF : ∀ (listed : Array Bool) (s : St) (a : Act) (w : World) (i : Nat) (o : Oper), At st res (fun j => listed.getD j false) s -> Sim cx E s a w -> (∀ j, listed.getD j false = true -> ∀ x ∈ cl j, listed.getD x false = true) -> i < cm cx.chg ops.toList -> ops.toList[i]? = some o ->
     listed.getD i false=false->(∀x∈cl i,listed.getD x false=true)-> ∃e,res[i]? =some e/\e.1=o.dst/\((Region.wanted o (yielded ops a.tmps)=true/\ ∀Q0,o.wp cx.P a w (λa' w' =>Sim cx E (s.put e.1 e.2.1 e.2.2) a' w') Q0) \/
      (Region.wanted o (yielded ops a.tmps)=false/\Sim cx E (s.put e.1 e.2.1 e.2.2) (a.put o.dst Go.undef) w)):=by
  intro listed s a w i o hat hsim hdown him ho hiL hcl;obtain⟨o2,e,g1,g2,hd,gd,gf,gm,gor⟩:=hg i him;rw[ho]at g1;cases g1;obtain⟨ag1,ag2,ag3⟩:=agree hp hg hl hat hdown him ho hiL hcl;have hdst:∀x,o.dst=some x->x<E.nt:=by rw[hn];exact cP hd
  refine⟨e,g2,gd,?_⟩;rcases gor with ⟨gw,gok⟩|⟨gw,gv,gb⟩
  . refine .inl ⟨fy gw ag1 hsim,λQ0=>?_⟩
    let R:St:=⟨(looks ops.toList o).map λt=>(t,(fb (res.take i) st).get t),tn cx (fb (res.take i) st) o⟩
    have hRget:∀t,R.get t=if t∈looks ops.toList o then(fb (res.take i) st).get t else .undef:=λt=>by
     show(match find ((looks ops.toList o).map λt=>(t,(fb (res.take i) st).get t)) t with|some v=>v|none=> .undef)=_
     rw[uC];split <;> simp_all
    have hok:=gok R (λx hx=>by
     cases x with
     |tmp t =>
      show(fb (res.take i) st).get t=R.get t
      rw[hRget,if_pos];unfold looks;exact List.mem_append.2 (.inl (List.mem_filterMap.2 ⟨.tmp t,hx,rfl⟩))
     |const v=>rfl
     |global g=>rfl
     |func f=>rfl) (λhr=>(Jw hr).symm) (λt x he z hz=>Jv he hz)
    have hle:R.le s:=⟨λt=>by
     rw[hRget];split
     . rename_i ht;exact .inr (ag1 t ht)
     . exact .inl rfl,λx b hb=>by
     obtain⟨hb1,hb2⟩:=Ju (o:=o) hb;rcases hb2 with hr|⟨t,y,he,hz⟩
     . exact ag2 hr x b hb1
     . refine ag3 x b (Mf hsim hz λt' ht' =>ag1 t' ?_) hb1;subst ht';unfold looks;exact List.mem_append.2 (.inl (List.mem_filterMap.2 ⟨.tmp t',by rw[he];simp[Op.operands],rfl⟩))⟩
    have hfr:∀x,live e.2.2 x-> ¬live s.heap x:=λx hx hlx=>by
     obtain⟨hsf,hs0f⟩:=km hg hl him g2 hx;rcases hat.heap x with ⟨j,e',b,r1,r2,r3,_⟩|⟨_,r2⟩
     . have:=qV hg hl g2 r2 hx (ax.2 ⟨b,r3⟩);subst this;rw[hiL]at r1;cases r1
     . unfold live at hlx hs0f;rw[r2]at hlx;exact hs0f hlx
    have:=hok.1 E s a w Q0 hle hdst hfr hsim;rw[<- gd]at this;exact this
  . refine .inr ⟨fy gw ag1 hsim,?_⟩;have hsk:=fp (d:=o.dst) hdst hsim;rw[gd,gv,gb];exact hsk
 have key : ∀ (fuel : Nat) (listed : Array Bool) (a : Act) (w : World), listed.size = ops.size -> ((List.range ops.size).filter fun j => !listed.getD j false).length <= fuel -> (∀ j, listed.getD j false = true -> ∀ x ∈ cl j, listed.getD x false = true) ->
     (Ph1 listed a w\/Ph2 listed a w)->wpAny cx.P .any ops Q fuel listed a w:=by
  intro fuel;induction fuel with
  |zero =>
   intro listed a w hsz hcnt hdown hph;have hall:∀j,j<ops.size->listed.getD j false=true:=λj hj=>by
    cases h:listed.getD j false with
    |true=>rfl
    |false =>
     have:j∈(List.range ops.size).filter λj=> !listed.getD j false:=List.mem_filter.2 ⟨List.mem_range.2 hj,by simp[h]⟩
     have:=List.length_pos_of_mem this;omega
   refine⟨?_,done listed a w hph hall⟩;rw[List.eq_nil_iff_forall_not_mem];intro i hi;obtain⟨o,ho,h1,_⟩:=(eW hsz).1 hi;have:i<ops.size:=by have:=(aq.1 ho).1;simpa using this
   rw[hall i this]at h1;cases h1
  |succ fuel ih =>
   intro listed a w hsz hcnt hdown hph;by_cases hlate:Ph1 listed a w/\ ∃x ox,x<cm cx.chg ops.toList/\MI ops.toList (cl x) x/\ops.toList[x]? =some ox/\listed.getD x false=false/\ ∀e∈eK ox,listed.getD e false=true
   . obtain⟨⟨s,h1,hat,hsim⟩,x,ox,hxm,hL,hox,hxL,hxe⟩:=hlate;have hclx:∀y∈cl x,listed.getD y false=true:=λy hy=>by
      obtain⟨_,e,he,hh⟩:=hp.least x ox hox y hy;rcases hh with rfl|hh
      . exact hxe e he
      . exact hdown e (hxe e he) y hh
     have hxin:x<ops.size:=by omega
     have hset:∀j,(listed.setIfInBounds x true).getD j false=if j=x then true else listed.getD j false:=λj=>getSet listed x j (by omega)
     obtain⟨e,g2,gd,gor⟩:=stepF listed s a w x ox hat hsim hdown hxm hox hxL hclx;obtain⟨ox',hox',hlt⟩:=hL.op;rw[hox]at hox';cases hox';have hox2:ops[x]? =some ox:=by rw[<- aW];exact hox
     obtain⟨v,hy,hsv⟩:∃v,Yields cx.P ops ox v a/\Sim cx E (s.put e.1 e.2.1 e.2.2) (a.put ox.dst v) w:=by
      rcases gor with ⟨gw,gok⟩|⟨gw,gs⟩
      . obtain⟨z,hz1,hz2⟩:=FK hlt (gok λ_ _ _=>False);exact⟨z,.inl ⟨gw,hz1⟩,hz2⟩
      . exact⟨_,.inr ⟨gw,rfl⟩,gs⟩
     refine wpAny_first (v:=v) hox2 (λj o cs b ho=>hL.sel o (Array.mem_toList_iff.2 (Array.mem_of_getElem? ho)) cs b) (λc a w hh=>absurd hh (hQp c _ w)) fuel listed a w
      (λj oj hj hne hun hno=>by
       have hjc:j ∉ cl x:=λhm=>by
        have h1:=hclx j hm;simp only[bp]at h1 hun;cases hh:listed[j]? with
        |none=>rw[hh]at h1;cases h1
        |some b=>rw[hh]at h1 hun;simp at h1 hun;rw[h1]at hun;cases hun
       have:=hL.free ox j oj hox (by rw[aW];exact hj) hne hjc hno;simpa using this) ((eW hsz).2 ⟨ox,hox,hxL,hxe⟩) hy ?_
     refine ih _ _ _ (by simp [hsz]) ?_ ?_ (.inl ⟨_, fun j hj => by rw [hset, if_neg (by omega)]; exact h1 j hj, hat.step g2 (fun j => by
         show(listed.setIfInBounds x true).getD j false=true ↔ _
         rw[hset];split
         . simp_all
         . simp_all),hsv⟩)
     . have:=yn (p:=λj=> !listed.getD j false) (p' :=λj=> !(listed.setIfInBounds x true).getD j false) (λj hj=>by
        rw[hset]at hj;split at hj
        . simp at hj
        . exact hj) (i:=x) (by simp only[hxL];rfl) (by rw[hset];simp) (List.mem_range.2 hxin)
       omega
     . intro j hj y hy;rw[hset];split
       . rfl
       . rw[hset]at hj;split at hj
         . rename_i e;subst e;exact hclx y hy
         . exact hdown j hj y hy
   refine⟨λhr=>done listed a w hph (prog listed hsz hr),λi hi=>?_⟩;obtain⟨o,ho,hiL,hedges⟩:=(eW hsz).1 hi;have hin:i<ops.size:=by have:=(aq.1 ho).1;simpa using this
   have ho' :ops[i]? =some o:=by rw[<- aW];exact ho
   have hcl:∀x∈cl i,listed.getD x false=true:=λx hx=>by
    obtain⟨_,e,he,hh⟩:=hp.least i o ho x hx;rcases hh with rfl|hh
    . exact hedges e he
    . exact hdown e (hedges e he) x hh
   have hset:∀j,(listed.setIfInBounds i true).getD j false=if j=i then true else listed.getD j false:=λj=>getSet listed i j (by omega)
   have hsz' :(listed.setIfInBounds i true).size=ops.size:=by simp[hsz]
   have hcnt' :((List.range ops.size).filter λj=> !(listed.setIfInBounds i true).getD j false).length<=fuel:=by
    have:=yn (p:=λj=> !listed.getD j false) (p' :=λj=> !(listed.setIfInBounds i true).getD j false) (λj hj=>by
     rw[hset]at hj;split at hj
     . simp at hj
     . exact hj) (i:=i) (by simp only[hiL];rfl) (by rw[hset];simp) (List.mem_range.2 hin)
    omega
   have hdown' :∀j,(listed.setIfInBounds i true).getD j false=true-> ∀x∈cl j,(listed.setIfInBounds i true).getD x false=true:=λj hj x hx=>by
    rw[hset];split
    . rfl
    . rw[hset]at hj;split at hj
      . rename_i e;subst e;exact hcl x hx
      . exact hdown j hj x hx
   unfold wpOp;rw[ho'];dsimp only;have hph' :(Ph1 listed a w/\ ∃j,j<cm cx.chg ops.toList/\listed.getD j false=false)\/Ph2 listed a w:=by
    rcases hph with h|h
    . by_cases hex:∃j,j<cm cx.chg ops.toList/\listed.getD j false=false
      . exact .inl ⟨h,hex⟩
      . exact .inr (norm listed a w h λj hj=>by
         cases hh:listed.getD j false with
         |true=>rfl
         |false=>exact absurd ⟨j,hj,hh⟩ hex)
    . exact .inr h
   rcases hph' with ⟨⟨s,h1,hat,hsim⟩,jx,hjx1,hjx2⟩|⟨q,s,h1,h2,h3,h4,h5⟩
   . have him:i<cm cx.chg ops.toList:=by
      rcases Nat.lt_or_ge i (cm cx.chg ops.toList)with h|h
      . exact h
      . rcases hp.tail i o ho h jx (by omega)with ht|⟨ht1,ht2,ht3⟩
        . have:=hcl jx ht;rw[hjx2]at this;cases this
        . obtain⟨ox,hox,_⟩:=ht2.op;exact absurd ⟨⟨s,h1,hat,hsim⟩,jx,ox,hjx1,ht2,hox,hjx2,λe he=>hcl e (ht3 ox hox e he)⟩ hlate
     obtain⟨e,g2,gd,gor⟩:=stepF listed s a w i o hat hsim hdown him ho hiL hcl;have hnext:∀{a' :Act} {w' :World},Sim cx E (s.put e.1 e.2.1 e.2.2) a' w' ->wpAny cx.P .any ops Q fuel (listed.setIfInBounds i true) a' w' :=λhs' =>
      ih _ _ _ hsz' hcnt' hdown' (.inl ⟨_,λj hj=>by rw[hset,if_neg (by omega)];exact h1 j hj,hat.step g2 (λj=>by
       show(listed.setIfInBounds i true).getD j false=true ↔ _
       rw[hset];split
       . simp_all
       . simp_all),hs'⟩)
     rcases gor with ⟨gw,gok⟩|⟨gw,gs⟩
     . rw[gw,if_pos rfl];exact .inl (Oper.wp_mono (λa' w' hs' =>hnext hs') (gok Q))
     . rw[gw];simp only[eR,if_false];exact hnext gs
   . have hiq:i=q:=by
      have hge:q<=i:=by
       rcases Nat.lt_or_ge i q with h|h
       . rw[h3 i]at hiL;simp at hiL;omega
       . exact h
      rcases Nat.lt_or_ge q i with h|h
      . rcases hp.tail i o ho (by omega) q h with ht|⟨ht1,_⟩
        . have:=hcl q ht;rw[h3 q]at this;simp at this
        . omega
      . omega
     subst hiq;have hdrop:ops.toList.drop i=o::ops.toList.drop (i+1):=by
      rw[List.drop_eq_getElem_cons (by simpa using hin)]
      congr 1
      exact(aq.1 ho).2
     rw[hdrop]at h4;simp only[oP]at h4;have hnext:∀{s' :St} {a' :Act} {w' :World},oP cx nt true ops.toList (ops.toList.drop (i+1)) k s' ->Sim cx E s' a' w' ->wpAny cx.P .any ops Q fuel (listed.setIfInBounds i true) a' w' :=λhk hs' =>
      ih _ _ _ hsz' hcnt' hdown' (.inr ⟨i+1,_,by omega,by omega,λj=>by
       rw[hset,h3 j];split
       . rename_i e;subst e;simp
       . rename_i e;simp;omega,hk,hs'⟩)
     rcases mz h4 h5 with ⟨hw,h4⟩|⟨hw,h4⟩
     . rw[if_pos hw];obtain⟨st1,k1,k2⟩:=gr hT h4;exact .inl (Oper.wp_mono (λa' w' hs' =>hnext k2 hs') (k1 E a w Q hn h5))
     . rw[if_neg (by simp[hw])];split at h4
       . rename_i hd;exact hnext h4 (fp (by rw[hn];exact cP hd) h5)
       . exact h4.elim
 refine key ops.size _ a _ (by simp) ?_ ?_ (.inl ⟨st,?_,?_,hs0⟩)
 . refine Nat.le_trans (List.length_filter_le _ _) (by simp)
 . intro j hj;simp[bp,Array.getElem?_replicate]at hj;split at hj <;> simp at hj
 . intro j _;simp[bp,Array.getElem?_replicate];split <;> rfl
 . refine⟨λt=> .inr ⟨λj e hj=>?_,rfl⟩,λs=> .inr ⟨λj e hj=>?_,rfl⟩⟩
   . simp[bp,Array.getElem?_replicate]at hj;split at hj <;> simp at hj
   . simp[bp,Array.getElem?_replicate]at hj;split at hj <;> simp at hj
theorem Dv{cx:Cx}{nt:Nat}(hT:ba cx)(hm:cx.P.follows .mixedOrders=true){id:Nat}{ops:Array Oper}{E:Env}(hn:E.nt=nt){Q:Exit->Act->World->Prop}{k:St->Prop}{st:St}{a:Act}{w:World}(h:ID cx nt ops.toList k st)(hs:Sim cx E st a w)
 (hQ:∀st' a' w',k st' ->Sim cx E st' a' w' ->Q .normal a' w'):(Code.region id ops true).wp cx.P Q a w :=
 wp_mono (Q:=yY Q) (wp_region_any hm (KW hT hn h hs hQ)) (λe a w hq=>by cases e <;> first|exact hq|exact hq.elim)
def CN(P:Nat->Prop):List Nat->Prop
 |[]=>True
 |[i]=>P i
 |i::t=>P i/\CN P t
theorem pK{P:Nat->Prop}:∀{l:List Nat},CN P l-> ∀i∈l,P i
 |[],_,i,hi=>by cases hi
 |[x],h,i,hi=>by simp at hi;subst hi;exact h
 |x::y::t,h,i,hi=>by
  rcases List.mem_cons.1 hi with rfl|hi
  . exact h.1
  . exact pK h.2 i hi
def Il(ops:List Oper)(done:List Nat)(i:Nat):Bool :=
 match cD i done with
 |true=>false
 |false=>(match ops[i]? with|some o=>(eK o).all λe=>cD e done|none=>false)
def gy(ops:List Oper)(done:List Nat):List Nat:=(List.range ops.length).filter (Il ops done)
def oG(cx:Cx)(nt:Nat)(ops:List Oper)(k:St->Prop):Nat->List Nat->St->Prop
 |0,_,_=>False
 |f+1,done,st=>(match gy ops done with
  |[]=>k st
  |i::t=>CN (λi=>(match ops[i]? with
   |some o=>ia ops st o (iX cx nt false o st λst' =>oG cx nt ops k f (i::done) st') (match cM nt o.dst with|true=>oG cx nt ops k f (i::done) (st.put o.dst (.tuple []) [])|false=>False)
   |none=>False)) (i::t))
theorem LF{i j:Nat}{l:List Nat}:cD j (i::l)=(if j=i then true else cD j l):=by
 simp only[cD];by_cases h:j=i
 . subst h;simp
 . have:Nat.beq j i=false:=by rw[<- Bool.not_eq_true];exact λe=>h (aO e)
   rw[this,if_neg h]
theorem MQ{cx:Cx}{nt:Nat}(hT:ba cx){ops:Array Oper}{E:Env}(hn:E.nt=nt){Q:Exit->Act->World->Prop}{k:St->Prop}{st:St}{a:Act}{w:World}(h:oG cx nt ops.toList k (ops.size+1) [] st)(hs:Sim cx E st a w)
 (hQ:∀st' a' w',k st' ->Sim cx E st' a' w' ->Q .normal a' w'):wpAny cx.P .any ops Q ops.size (Array.replicate ops.size false) a {w with drawn:=w.drawn+1}:=by
 have hs0:Sim cx E st a {w with drawn:=w.drawn+1}:=by
  obtain⟨σ,hs⟩:=hs;have hk:aU w {w with drawn:=w.drawn+1} (Own E.O (live st.heap) σ) (Own E.O (live st.heap) σ):=⟨Nat.le_refl _,λ_ _ _=>rfl,λ_ h _=>h⟩
  have hss:∀s,live st.heap s->live st.heap s/\σ s=σ s:=λs h=>⟨h,rfl⟩
  exact⟨σ,⟨hs.frame.os,hs.frame.tape,hs.frame.output,hs.frame.size,hs.frame.block⟩,hs.new,hs.apart,hs.defers,hs.nt,λt=>(hs.slots t).mono hk hss,
   ⟨λs b hb=>cw.mono hk hss (ax.2 ⟨b,hb⟩) (λ_ _=>rfl) (hs.holds.blk s b hb),hs.holds.inj⟩,hs.glob,hs.globF,hs.fix⟩
 have key : ∀ (fuel : Nat) (done : List Nat) (listed : Array Bool) (st : St) (a : Act) (w : World), listed.size = ops.size -> (∀ j, listed.getD j false = cD j done) -> oG cx nt ops.toList k (fuel + 1) done st -> Sim cx E st a w ->
     wpAny cx.P .any ops Q fuel listed a w:=by
  intro fuel;have hiff:∀(done:List Nat) (listed:Array Bool),listed.size=ops.size->(∀j,listed.getD j false=cD j done)-> ∀i,i∈Region.ready .any ops listed ↔ i∈gy ops.toList done:=by
   intro done listed hsz hd i;rw[eW hsz];unfold gy Il;simp only[List.mem_filter,List.mem_range];constructor
   . rintro⟨o,ho,h1,h2⟩;refine⟨(aq.1 ho).1,?_⟩;rw[hd]at h1;rw[h1,ho];simp only[ay];intro e he;rw[<- hd];exact h2 e he
   . rintro⟨hlt,h⟩;split at h
     . cases h
     . rename_i hm;split at h
       . rename_i o ho;simp only[ay]at h;exact⟨o,ho,by rw[hd];exact hm,λe he=>by rw[hd];exact h e he⟩
       . cases h
  have stop:∀(done:List Nat) (listed:Array Bool) (f:Nat) (st:St) (a:Act) (w:World),listed.size=ops.size->(∀j,listed.getD j false=cD j done)->oG cx nt ops.toList k (f+1) done st->Sim cx E st a w->Region.ready .any ops listed=[]->Q .normal a w:=by
   intro done listed f st a w hsz hd hk hs hr;have hnil:gy ops.toList done=[]:=by
    rw[List.eq_nil_iff_forall_not_mem];intro i hi;have:=(hiff done listed hsz hd i).2 hi;rw[hr]at this;cases this
   simp only[oG,hnil]at hk;exact hQ st a w hk hs
  induction fuel with
  |zero =>
   intro done listed st a w hsz hd hk hs;have hnil:Region.ready .any ops listed=[]:=by
    rw[List.eq_nil_iff_forall_not_mem];intro i hi;have hi' :=(hiff done listed hsz hd i).1 hi;simp only[oG]at hk;split at hk
    . rename_i h;rw[h]at hi';cases hi'
    . rename_i x t h;have:=pK hk x (by simp);split at this
      . rename_i o ho;rcases mz this hs with ⟨_,hy⟩|⟨_,hy⟩
        . obtain⟨st1,_,h2⟩:=gr hT hy;exact h2
        . split at hy <;> exact hy
      . exact this
   exact⟨hnil,stop done listed 0 st a w hsz hd hk hs hnil⟩
  |succ fuel ih =>
   intro done listed st a w hsz hd hk hs;refine⟨λhr=>stop done listed (fuel+1) st a w hsz hd hk hs hr,λi hi=>?_⟩;have hi' :=(hiff done listed hsz hd i).1 hi;obtain⟨o,ho,hiL,_⟩:=(eW hsz).1 hi;have hin:i<ops.size:=by have:=(aq.1 ho).1;simpa using this
   have ho' :ops[i]? =some o:=by rw[<- aW];exact ho
   have hd' :∀j,(listed.setIfInBounds i true).getD j false=cD j (i::done):=λj=>by
    rw[LF, <- hd];simp only[bp];by_cases e:j=i
    . subst e;simp[show j<listed.size by omega]
    . rw[if_neg e,Array.getElem?_setIfInBounds_ne (λh=>e h.symm)]
   have hthis:ia ops.toList st o (iX cx nt false o st λst' =>oG cx nt ops.toList k (fuel+1) (i::done) st') (match cM nt o.dst with|true=>oG cx nt ops.toList k (fuel+1) (i::done) (st.put o.dst (.tuple []) [])|false=>False):=by
    rw[oG]at hk;split at hk
    . rename_i h;rw[h]at hi';cases hi'
    . rename_i x t h;rw[h]at hi';have:=pK hk i hi';rw[ho]at this;exact this
   unfold wpOp;rw[ho'];dsimp only;rcases mz hthis hs with ⟨hw,hy⟩|⟨hw,hy⟩
   . rw[if_pos hw];obtain⟨st1,k1,k2⟩:=gr hT hy;exact .inl (Oper.wp_mono (λa' w' hs' =>ih _ _ _ _ _ (by simp[hsz]) hd' k2 hs') (k1 E a w Q hn hs))
   . rw[if_neg (by simp[hw])];split at hy
     . rename_i hdd;exact ih _ _ _ _ _ (by simp[hsz]) hd' hy (fp (by rw[hn];exact cP hdd) hs)
     . exact hy.elim
 refine key ops.size [] _ st a _ (by simp) (λj=>?_) h hs0;simp[bp,Array.getElem?_replicate,cD];split <;> rfl
theorem GA{cx:Cx}{nt:Nat}(hT:ba cx)(hm:cx.P.follows .mixedOrders=true){id:Nat}{ops:Array Oper}{E:Env}(hn:E.nt=nt){Q:Exit->Act->World->Prop}{k:St->Prop}{st:St}{a:Act}{w:World}(h:oG cx nt ops.toList k (ops.size+1) [] st)(hs:Sim cx E st a w)
 (hQ:∀st' a' w',k st' ->Sim cx E st' a' w' ->Q .normal a' w'):(Code.region id ops true).wp cx.P Q a w:=wp_region_any hm (MQ hT hn h hs hQ)
def Cy:AV->Option Nat
 | .ptr s _=>some s
 | .rptr s _ _ _=>some s
 | .tl s _ _=>some s
 | .own s=>some s
 | .omap s=>some s
 |_=>none
theorem OS{v:AV}{s:Nat}(h:jT v=some s):Cy v=some s:=by
 cases v <;> simp[jT]at h <;> exact congrArg some h
def sd:Op->Option Operand
 | .load _ x=>some x
 | .indexAddr _ x _=>some x
 | .lookup _ x _ _=>some x
 | .call c=>(match c.args.toList with|x::_=>some x|[]=>none)
 |_=>none
theorem yZ{cx:Cx}{st st' :St}{d:Option Nat}{ty:TypeId}{op:Op}{k:KK}(hp:kQ op=true)(h1:∀x∈op.operands.toList,st.ev cx x=st'.ev cx x)
 (h3:∀x,sd op=some x-> ∀s,Cy (st.ev cx x)=some s->find st'.heap s=find st.heap s):opK cx d ty st op k=opK cx d ty st' op k:=by
 have easy:kU op=false->opK cx d ty st op k=opK cx d ty st' op k:=λhr =>
  Bu h1 (λe=>by rw[hr]at e;cases e) (λt x e s hs=>by subst e;exact h3 x rfl s (OS hs))
 cases op <;> first|(exact easy rfl)|(cases hp;done)|skip
 case indexAddr t x i =>
  simp only[Op.operands]at h1;simp only[opK];have h4:=h3 x rfl;have hx:st.ev cx x=st'.ev cx x:=h1 x (by simp);rw[hx]at h4 ⊢;rw[h1 i (by simp)];generalize st'.ev cx x=v at h4;unfold dC;cases v <;> first|rfl|(rename_i y;cases y <;> rfl)|(have h5:=h4 _ rfl;simp only[h5])
 case lookup t x i ok =>
  simp only[Op.operands]at h1;simp only[opK];have h4:=h3 x rfl;have hx:st.ev cx x=st'.ev cx x:=h1 x (by simp);rw[hx]at h4 ⊢;rw[h1 i (by simp)];generalize st'.ev cx x=v at h4;cases v with
  |omap s =>
   have h5:=h4 s rfl;have hm:mapOf st (.omap s)=mapOf st' (.omap s):=by simp only[mapOf,h5]
   unfold gR;rw[hm];cases mapOf st' (.omap s)with
   |some m=>rfl
   |none =>
    dsimp only;generalize st'.ev cx i=key;generalize cx.ty t=T;cases key with
    |d y=>cases y <;> first|rfl|(rcases T with _|⟨_,_,kd,_⟩ <;> first|rfl|(cases kd <;> first|rfl|(simp only[h5])))
    |_=>rfl
  |d y=>cases y <;> rfl
  |_=>rfl
 case call c =>
  obtain⟨cal,args,ts⟩:=c;cases cal with
  |value f=>cases hp
  |invoke r m=>cases hp
  |builtin b =>
   cases b <;> first|(cases hp;done)|skip
   simp only[opK,sD];have ea:∀x∈args.toList,st.ev cx x=st'.ev cx x:=λx hx=>h1 x (by simp[Op.operands,Call.operands];simpa using hx)
   simp only[sd]at h3;generalize args.toList=l at ea h3;generalize ts.toList=tl
   match l,tl with
   |[x],[t] =>
    have h4:=h3 x rfl;have ex:=ea x (by simp);rw[ex]at h4;simp only[ex];generalize st'.ev cx x=v at h4;unfold kv;cases v <;> first|rfl|(rename_i y;cases y <;> rfl)|(have h5:=h4 _ rfl;simp only[h5])
   |[],_=>rfl
   |[_],[]=>rfl
   |[_],_::_::_=>rfl
   |_::_::_,_=>rfl
def PH:Op->Bool
 | .select .. =>true
 |_=>false
def vN(ops:List Oper)(cl:List (List Nat))(x:Nat):Bool :=
 match ops[x]? with
 |some ox=>(match ox.dst with
  |some d=>(List.range ops.length).any λj=>(match ops[j]? with|some oj=>cD d (looks ops oj)&& !(cD x ((cl[j]?).getD []))|none=>false)
  |none=>false)
 |none=>false
def vC(ops:List Oper)(cl:List (List Nat))(i:Nat)(o:Oper):Bool :=
 let ci:=(cl[i]?).getD []
 (eK o).all (λe=>Nat.blt e i)&&ci.all (λx=>Nat.blt x i&&(eK o).any (λe=>Nat.beq e x||cD x ((cl[e]?).getD [])))&& !(PH o.op) &&
 (List.range ops.length).all λj=>(match ops[j]? with
  |some oj=>(match oj.dst with
   |some d=>(match cD d (looks ops o)with|true=>cD j ci||cD i ((cl[j]?).getD [])|false=>true)&&(Nat.beq i j||(match o.dst with|some d' => !(Nat.beq d d')|none=>true))
   |none=>true)
  |none=>false)
def sE(ops:List Oper)(cl:List (List Nat)):Nat->List Oper->Bool
 |_,[]=>true
 |i,o::t=>vC ops cl i o&&sE ops cl (i+1) t
def bA(ops:List Oper):Bool:=sE ops (closure ops []) 0 ops
structure Clean(ops:List Oper)(cl:Nat->List Nat)(lt:Nat->Bool):Prop where
 edge:∀(i:Nat) o,ops[i]? =some o-> ∀e∈eK o,e<i
 least:∀(i:Nat) o,ops[i]? =some o-> ∀x∈cl i,x<i/\ ∃e∈eK o,e=x\/x∈cl e
 sel:∀(i:Nat) o,ops[i]? =some o-> ∀cs b,o.op≠ .select cs b
 look:∀(i:Nat) o,ops[i]? =some o-> ∀(j:Nat) oj d,ops[j]? =some oj->oj.dst=some d->d∈looks ops o->j∈cl i\/(i∈cl j/\lt j=true)
 dst:∀(i:Nat) o,ops[i]? =some o-> ∀(j:Nat) oj d,ops[j]? =some oj->i≠j->oj.dst=some d->o.dst≠some d
theorem ub{ops:List Oper}{cl:List (List Nat)}:∀{l:List Oper} {i:Nat},sE ops cl i l=true-> ∀(j:Nat) o,l[j]? =some o->vC ops cl (i+j) o=true
 |[],i,_,j,o,h=>by simp at h
 |x::t,i,hp,j,o,h=>by
  simp only[sE,aH]at hp;cases j with
  |zero=>simp at h;subst h;exact hp.1
  |succ j=>simp at h;have:=ub hp.2 j o h;rwa [show i+1+j=i+(j+1) by omega]at this
theorem Df{ops:List Oper}(h:bA ops=true):Clean ops (λi=>((closure ops [])[i]?).getD []) (vN ops (closure ops [])):=by
 have key:∀(i:Nat) o,ops[i]? =some o->vC ops (closure ops []) i o=true:=λi o ho=>by
  have:=ub h i o ho;rwa [Nat.zero_add]at this
 refine⟨λi o ho e he=>?_,λi o ho x hx=>?_,λi o ho cs b e=>?_,λi o ho j oj d hj hd hm=>?_,λi o ho j oj d hj hne hd e=>?_⟩
 all_goals
  have hp:=key i o ho;simp only[vC,aH]at hp;obtain⟨⟨⟨h1,h2⟩,h3⟩,h4⟩:=hp
 . exact Nat.lt_of_succ_le (ag (ay.1 h1 e he))
 . have:=ay.1 h2 x hx;simp only[aH,List.any_eq_true,Bool.or_eq_true]at this;obtain⟨a,e,he,hh⟩:=this;exact⟨Nat.lt_of_succ_le (ag a),e,he,hh.imp aO cY.1⟩
 . rw[e]at h3;simp[PH]at h3
 . have:=ay.1 h4 j (List.mem_range.2 (aq.1 hj).1);simp only[hj,hd,cY.2 hm,aH,Bool.or_eq_true]at this;by_cases hc:cD j (((closure ops [])[i]?).getD [])=true
   . exact .inl (cY.1 hc)
   . refine .inr ⟨cY.1 (this.1.resolve_left hc),?_⟩;unfold vN;rw[hj];simp only[hd,List.any_eq_true,List.mem_range];exact⟨i,(aq.1 ho).1,by rw[ho];simp only[cY.2 hm,gZ];simpa using hc⟩
 . have:=ay.1 h4 j (List.mem_range.2 (aq.1 hj).1);have hij:Nat.beq i j=false:=by rw[<- Bool.not_eq_true];exact λe=>hne (aO e)
   simp only[hj,hd,e,hij,aH]at this;simp at this
def iA(ops:List Oper):List Nat->Option Nat
 |[]=>none
 |i::t=>(match ops[i]? with|some o=>(match kQ o.op with|true=>(match vN ops (closure ops []) i with|false=>some i|true=>iA ops t)|false=>iA ops t)|none=>iA ops t)
def viewAt(cx:Cx)(ops:List Oper)(st:St)(x:Nat):List AV×Option Blk :=
 match ops[x]? with
 |some o=>((looks ops o++o.dst.toList).map st.get,(match sd o.op with|some y=>(match Cy (st.ev cx y)with|some s=>find st.heap s|none=>none)|none=>none))
 |none=>([],none)
def wc(cx:Cx)(ops:List Oper)(st st1:St):List Nat->Prop->Prop
 |[],K=>K
 |x::t,K=>viewAt cx ops st1 x=viewAt cx ops st x/\wc cx ops st st1 t K
theorem xQ{cx:Cx}{ops:List Oper}{st st1:St}{K:Prop}:∀{l:List Nat},wc cx ops st st1 l K->K/\ ∀x∈l,viewAt cx ops st1 x=viewAt cx ops st x
 |[],h=>⟨h,λx hx=>by cases hx⟩
 |y::t,h=>by
  obtain⟨h1,h2⟩:=xQ (l:=t) h.2;refine⟨h1,λx hx=>?_⟩;rcases List.mem_cons.1 hx with rfl|hx
  . exact h.1
  . exact h2 x hx
def Cz(cx:Cx)(nt:Nat)(o:Oper)(st:St)(k:St->Prop):Prop :=
 match cM nt o.dst with
 |true=>opK cx o.dst o.type st o.op λv bs=>(match bs with|[]=>k (st.put o.dst v [])|_::_=>False)
 |false=>False
def sj(ops:List Oper)(i:Nat)(virt:List Nat):List Nat:=virt.filter λx=> !(cD x (((closure ops [])[i]?).getD []))
def jM(cx:Cx)(nt:Nat)(ops:List Oper)(k:St->Prop):Nat->List Nat->List Nat->St->Prop
 |0,_,_,_=>False
 |f+1,done,virt,st=>(match iA ops (gy ops done)with
  |some i=>(match ops[i]? with
   |some o=>ia ops st o (Cz cx nt o st λst' =>jM cx nt ops k f (i::done) (i::virt) st') (match cM nt o.dst with|true=>jM cx nt ops k f (i::done) (i::virt) (st.put o.dst (.tuple []) [])|false=>False)
   |none=>False)
  |none=>(match gy ops done with
   |[]=>k st
   |i::t=>CN (λi=>(match ops[i]? with
    |some o=>ia ops st o (iX cx nt false o st λst' =>wc cx ops st st' (sj ops i virt) (jM cx nt ops k f (i::done) virt st')) (match cM nt o.dst with|true=>jM cx nt ops k f (i::done) virt (st.put o.dst (.tuple []) [])|false=>False)
    |none=>False)) (i::t)))
def Agr(D:Nat->Prop)(p a:Act):Prop:=p.defers=a.defers/\p.tmps.size=a.tmps.size/\ ∀t,¬D t->p.tmps.getD t Go.undef=a.tmps.getD t Go.undef
theorem Agr.mono{D D' :Nat->Prop}{p a:Act}(h:Agr D p a)(hd:∀t,D t->D' t):Agr D' p a:=⟨h.1,h.2.1,λt ht=>h.2.2 t λe=>ht (hd t e)⟩
theorem xw(a:Act)(d t:Nat)(u:Value):(a.put (some d) u).tmps.getD t Go.undef=if d=t/\d<a.tmps.size then u else a.tmps.getD t Go.undef:=by
 simp only[Act.put,bp];by_cases h:d=t
 . subst h;by_cases hl:d<a.tmps.size
   . simp[hl]
   . simp[hl]
 . rw[Array.getElem?_setIfInBounds_ne h,if_neg (λe=>h e.1)]
theorem Agr.put{D:Nat->Prop}{p a:Act}(h:Agr D p a)(d:Option Nat)(u:Value):Agr (λt=>D t/\d≠some t) (p.put d u) (a.put d u):=by
 refine⟨by cases d <;> exact h.1,by cases d <;> simp[Act.put,h.2.1],λt ht=>?_⟩;cases d with
 |none=>exact h.2.2 t λe=>ht ⟨e,by simp⟩
 |some d =>
  rw[xw,xw,h.2.1];by_cases e:d=t/\d<a.tmps.size
  . rw[if_pos e,if_pos e]
  . rw[if_neg e,if_neg e];by_cases hdt:d=t
    . subst hdt;have hl:¬d<a.tmps.size:=λhl=>e ⟨rfl,hl⟩
      have hl' :¬d<p.tmps.size:=by rw[h.2.1];exact hl
      simp[hl,hl']
    . exact h.2.2 t λe' =>ht ⟨e',λe=>hdt (by simpa using e)⟩
theorem Agr.Jy{D:Nat->Prop}{p a:Act}(h:Agr D p a)(d:Option Nat)(u:Value):Agr (λt=>D t\/d=some t) (p.put d u) a:=by
 refine⟨by cases d <;> exact h.1,by cases d <;> simp[Act.put,h.2.1],λt ht=>?_⟩;cases d with
 |none=>exact h.2.2 t λe=>ht (.inl e)
 |some d =>
  rw[xw,if_neg (λe=>ht (.inr (by rw[e.1])))];exact h.2.2 t λe=>ht (.inl e)
theorem Agr.eval{D:Nat->Prop}{p a:Act}(h:Agr D p a){x:Operand}(hx:∀t,x= .tmp t-> ¬D t):p.eval x=a.eval x:=by
 cases x with
 |tmp t=>exact h.2.2 t (hx t rfl)
 |_=>rfl
theorem Agr.eq{D:Nat->Prop}{p a:Act}(h:Agr D p a)(hd:∀t,¬D t):p=a:=by
 obtain⟨tp,dp⟩:=p;obtain⟨ta,da⟩:=a;obtain⟨h1,h2,h3⟩:=h;simp only at h1 h2 h3;have:tp=ta:=by
  apply Array.ext h2;intro i hi hi';have:=h3 i (hd i);simpa [hi,hi'] using this
 rw[h1,this]
theorem sY{ops:List Oper}{o:Oper}{t:Nat}(h:Operand.tmp t∈o.op.operands.toList):t∈looks ops o :=
 List.mem_append.2 (.inl (List.mem_filterMap.2 ⟨.tmp t,h,rfl⟩))
theorem Agr.exec{D:Nat->Prop}{p a:Act}(h:Agr D p a){ops:List Oper}{o:Oper}(hsel:∀cs b,o.op≠ .select cs b)(hl:∀t∈looks ops o,¬D t):execOp p.eval o=execOp a.eval o :=
 execOp_congr o hsel λx hx=>h.eval λt e=>hl t (sY (by subst e;simpa using hx))
theorem Agr.wanted{D:Nat->Prop}{p a:Act}(h:Agr D p a){ops:Array Oper}{o:Oper}(hl:∀t∈looks ops.toList o,¬D t):Region.wanted o (yielded ops p.tmps)=Region.wanted o (yielded ops a.tmps):=by
 unfold Region.wanted;cases hg:o.guard with
 |none=>rfl
 |some gw =>
  obtain⟨g,want⟩:=gw;have:yielded ops p.tmps g=yielded ops a.tmps g:=by
   unfold yielded;cases hog:ops[g]? with
   |none=>rfl
   |some og =>
    cases hd:og.dst with
    |none=>simp[hog,hd]
    |some d =>
     have hm:d∈looks ops.toList o:=by
      unfold looks;rw[hg];have:ops.toList[g]? =some og:=by rw[aW];exact hog
      simp[this,hd]
     have he:=h.2.2 d (hl d hm);have hs:p.tmps.size=a.tmps.size:=h.2.1;have hpa:p.tmps[d]? =a.tmps[d]? :=by
      by_cases hlt:d<a.tmps.size
      . have hlt' :d<p.tmps.size:=by rw[hs];exact hlt
        rw[Array.getElem?_eq_getElem hlt,Array.getElem?_eq_getElem hlt'];simpa [hlt,hlt'] using he
      . rw[Array.getElem?_eq_none (show p.tmps.size<=d by rw[hs];exact Nat.le_of_not_lt hlt),Array.getElem?_eq_none (Nat.le_of_not_lt hlt)]
     simp[hog,hd,hpa]
  simp only[this]
theorem Su{P:Program}{D:Nat->Prop}{p a:Act}(h:Agr D p a){ops:List Oper}{o:Oper}(hsel:∀cs b,o.op≠ .select cs b)(hl:∀t∈looks ops o,¬D t){w:World}{K:Act->World->Prop}{Q:Exit->Act->World->Prop}
 (hw:o.wp P p w K λ_ _ _=>False):o.wp P a w (λa' w' => ∃p',K p' w' /\Agr (λt=>D t/\o.dst≠some t) p' a') Q:=by
 unfold Oper.wp at hw ⊢;rw[h.exec hsel hl]at hw;generalize (execOp a.eval o).run P w=r at hw ⊢;cases r with
 |ok n w' =>
  cases n <;> simp only[Oper.upon]at hw ⊢
  case value u=>exact⟨_,hw,h.put _ _⟩
  case skip=>exact⟨_,hw,h.put _ _⟩
  case defer d =>
   refine⟨_,hw,?_⟩;have:Agr D {p with defers:=d::p.defers} {a with defers:=d::a.defers}:=⟨by simp[h.1],h.2.1,h.2.2⟩
   exact this.put _ _
  case enter f args =>
   refine Calls.mono hw λe w'' he=>?_
   cases e with
   |returned u=>exact⟨_,he,h.put _ _⟩
   |panicked c=>exact he.elim
   |outgrown=>obtain⟨_,_,hf⟩:=he;exact hf.elim
  case row row args=>exact Rows.mono hw λu w'' he=>⟨_,he,h.put _ _⟩
 |halt x w' =>
  cases x <;> simp only[Oper.upon]at hw ⊢
def pI(cx:Cx)(nt:Nat)(ops:List Oper)(st:St)(x:Nat):Prop :=
 ∃o v,ops[x]? =some o/\kQ o.op=true/\cM nt o.dst=true/\(∀d,o.dst=some d->st.get d=v) /\
  ((eZ ops st o true/\opK cx o.dst o.type st o.op (kF v []))\/(eZ ops st o false/\v= .tuple []))
theorem nZ{ops:List Oper}{st st1:St}{o:Oper}{b:Bool}(hl:∀t∈looks ops o,st1.get t=st.get t)(h:eZ ops st o b):eZ ops st1 o b:=by
 unfold eZ at h ⊢;split
 . rename_i hg;rw[hg]at h;exact h
 . rename_i g want hg;rw[hg]at h;obtain⟨og,d,h1,h2,h3⟩:=h;have hm:d∈looks ops o:=by unfold looks;rw[hg];simp[h1,h2]
   exact⟨og,d,h1,h2,by rw[hl d hm];exact h3⟩
theorem pI.mono{cx:Cx}{nt:Nat}{ops:List Oper}{st st1:St}{x:Nat}(h:pI cx nt ops st x)(hl:∀o,ops[x]? =some o-> ∀t,t∈looks ops o\/o.dst=some t->st1.get t=st.get t)
 (hh:∀o,ops[x]? =some o-> ∀y,sd o.op=some y-> ∀s,Cy (st.ev cx y)=some s->find st1.heap s=find st.heap s):pI cx nt ops st1 x:=by
 obtain⟨o,v,ho,hp,hd,hv,hor⟩:=h;refine⟨o,v,ho,hp,hd,λd e=>(hl o ho d (.inr e)).trans (hv d e),?_⟩;rcases hor with ⟨hw,hk⟩|⟨hw,e⟩
 . refine .inl ⟨nZ (λt ht=>hl o ho t (.inl ht)) hw,?_⟩
   rwa [<- yZ (st:=st) hp (λy hy=>?_) (λy hy s hs=>hh o ho y hy s hs)]
   cases y with
   |tmp t=>exact(hl o ho t (.inl (sY hy))).symm
   |_=>rfl
 . exact .inr ⟨nZ (λt ht=>hl o ho t (.inl ht)) hw,e⟩
theorem Oh{op:Op}{y:Operand}(h:sd op=some y):y∈op.operands.toList:=by
 cases op <;> simp[sd]at h
 case call c =>
  split at h
  . rename_i x t hx;cases h;simp only[Op.operands,Call.operands,Array.toList_append,List.mem_append];right;rw[hx];simp
  . cases h
 all_goals (subst h;simp[Op.operands])
theorem BR{cx:Cx}{nt:Nat}{ops:List Oper}{st st1:St}{x:Nat}(h:pI cx nt ops st x)(hv:viewAt cx ops st1 x=viewAt cx ops st x):pI cx nt ops st1 x:=by
 have hs:∀o,ops[x]? =some o-> ∀t,t∈looks ops o\/o.dst=some t->st1.get t=st.get t:=λo ho t ht=>by
  unfold viewAt at hv;rw[ho]at hv;have h1:=congrArg Prod.fst hv;simp only at h1;have hm:t∈looks ops o++o.dst.toList:=List.mem_append.2 (ht.imp id λe=>by rw[e];simp);exact(List.map_inj_left.1 h1) t hm
 refine h.mono hs λo ho y hy s hsite=>?_
 have hev:st1.ev cx y=st.ev cx y:=by
  cases y with
  |tmp t=>exact hs o ho t (.inl (sY (Oh hy)))
  |_=>rfl
 unfold viewAt at hv;rw[ho]at hv;have h2:=congrArg Prod.snd hv;simp only[hy,hev,hsite]at h2;exact h2
theorem jf{ops:List Oper}:∀{l:List Nat} {i:Nat},iA ops l=some i->i∈l/\(∃o,ops[i]? =some o/\kQ o.op=true)/\vN ops (closure ops []) i=false
 |[],i,h=>by cases h
 |j::t,i,h=>by
  simp only[iA]at h;split at h
  . rename_i o ho;split at h
    . rename_i hp;split at h
      . rename_i hw;cases h;exact⟨by simp,⟨o,ho,hp⟩,hw⟩
      . obtain⟨h1,h2⟩:=jf h;exact⟨by simp[h1],h2⟩
    . obtain⟨h1,h2⟩:=jf h;exact⟨by simp[h1],h2⟩
  . obtain⟨h1,h2⟩:=jf h;exact⟨by simp[h1],h2⟩
theorem iI{ops:List Oper}{done:List Nat}{i:Nat}:i∈gy ops done ↔ ∃o,ops[i]? =some o/\i ∉ done/\ ∀e∈eK o,e∈done:=by
 unfold gy Il;simp only[List.mem_filter,List.mem_range];constructor
 . rintro⟨hlt,h⟩;split at h
   . cases h
   . rename_i hm;split at h
     . rename_i o ho;exact⟨o,ho,λe=>(by rw[cY.2 e]at hm;cases hm),λe he=>cY.1 (ay.1 h e he)⟩
     . cases h
 . rintro⟨o,ho,hn,hb⟩;have hm:cD i done=false:=by rw[<- Bool.not_eq_true];exact λe=>hn (cY.1 e)
   refine⟨(aq.1 ho).1,?_⟩;rw[hm,ho];exact ay.2 λe he=>cY.2 (hb e he)
structure Inv(cx:Cx)(nt:Nat)(ops:Array Oper)(cl:Nat->List Nat)(lt:Nat->Bool)(E:Env)(listed:Nat->Bool)(done virt:List Nat)(st:St)(a:Act)(w:World):Prop where
 sub:∀j,listed j=true->j∈done
 act:∃p,Sim cx E st p w/\Agr (λt=> ∃x o,x∈done/\listed x=false/\ops.toList[x]? =some o/\o.dst=some t) p a
 re:∀x∈done,listed x=false->(x∈virt/\lt x=false)/\pI cx nt ops.toList st x
 downD:∀j∈done,∀x∈cl j,x∈done
 downL:∀j,listed j=true-> ∀x∈cl j,listed x=true
section
variable {cx:Cx} {nt:Nat} {ops:Array Oper} {cl:Nat->List Nat} {lt:Nat->Bool} {E:Env} {listed:Nat->Bool} {done virt:List Nat} {st:St} {a:Act} {w:World}
theorem pA(hc:Clean ops.toList cl lt){S:Nat->Prop}(hd:∀j,S j-> ∀x∈cl j,S x){i:Nat}{o:Oper}(ho:ops.toList[i]? =some o)(hb:∀e∈eK o,S e):∀x∈cl i,S x:=λx hx=>by
 obtain⟨_,e,he,hh⟩:=hc.least i o ho x hx;rcases hh with rfl|hh
 . exact hb e he
 . exact hd e (hb e he) x hh
theorem Inv.He(hc:Clean ops.toList cl lt)(h:Inv cx nt ops cl lt E listed done virt st a w){i:Nat}{o:Oper}(ho:ops.toList[i]? =some o)(hcl:∀x∈cl i,listed x=true) :
 ∀t∈looks ops.toList o,¬ ∃x o,x∈done/\listed x=false/\ops.toList[x]? =some o/\o.dst=some t:=by
 rintro t ht ⟨x,ox,hxd,hx,hox,hd⟩;rcases hc.look i o ho x ox t hox hd ht with hl|⟨_,hl⟩
 . have:=hcl x hl;rw[hx]at this;cases this
 . have:=(h.re x hxd hx).1.2;rw[this]at hl;cases hl
theorem tq(hc:Clean ops.toList cl lt)(hd:∀j∈done,∀x∈cl j,x∈done){i:Nat}{o:Oper}(ho:ops.toList[i]? =some o)(hi:i ∉ done){v:AV}{x:Nat}(hx:x∈done)(hl:lt i=false\/x ∉ cl i)(h:pI cx nt ops.toList st x):pI cx nt ops.toList (st.put o.dst v []) x:=by
 refine h.mono (λox hox t ht=>?_) (λox hox y hy s hs=>rfl);rw[St.eV,if_neg];intro e;rcases ht with ht|ht
 . rcases hc.look x ox hox i o t ho e ht with hk|⟨hk,hk2⟩
   . exact hi (hd x hx i hk)
   . rcases hl with hl|hl
     . rw[hl]at hk2;cases hk2
     . exact hl hk
 . exact hc.dst x ox hox i o t ho (λe=>hi (e ▸ hx)) e ht
theorem Bv(hc:Clean ops.toList cl lt){i:Nat}{o:Oper}(ho:ops.toList[i]? =some o)(hp:kQ o.op=true)(hd:cM nt o.dst=true){v:AV}
 (hor:(eZ ops.toList st o true/\opK cx o.dst o.type st o.op (kF v []))\/(eZ ops.toList st o false/\v= .tuple [])):pI cx nt ops.toList (st.put o.dst v []) i:=by
 have hl:∀t∈looks ops.toList o,(st.put o.dst v []).get t=st.get t:=λt ht=>by
  rw[St.eV,if_neg];intro e;have:=(hc.least i o ho i ((hc.look i o ho i o t ho e ht).elim id λh=>h.1)).1;omega
 refine⟨o,v,ho,hp,hd,λd e=>by rw[St.eV,if_pos e],?_⟩;rcases hor with ⟨hw,hk⟩|⟨hw,e⟩
 . refine .inl ⟨nZ hl hw,?_⟩
   rwa [<- yZ (st:=st) (st' :=st.put o.dst v []) hp (λy hy=>?_) (λy hy s hs=>rfl)]
   cases y with
   |tmp t=>exact(hl t (sY hy)).symm
   |_=>rfl
 . exact .inr ⟨nZ hl hw,e⟩
end
theorem Mz{cx:Cx}{nt:Nat}(hT:ba cx){ops:Array Oper}{E:Env}(hn:E.nt=nt){Q:Exit->Act->World->Prop}{k:St->Prop}{st:St}{a:Act}{w:World}(hclean:bA ops.toList=true)
 (h:jM cx nt ops.toList k (ops.size+1) [] [] st) (hs:Sim cx E st a w) (hQ:∀st' a' w',k st' ->Sim cx E st' a' w' ->Q .normal a' w'):wpAny cx.P .any ops Q ops.size (Array.replicate ops.size false) a {w with drawn:=w.drawn+1}:=by
 have hs0:Sim cx E st a {w with drawn:=w.drawn+1}:=by
  obtain⟨σ,hs⟩:=hs;have hk:aU w {w with drawn:=w.drawn+1} (Own E.O (live st.heap) σ) (Own E.O (live st.heap) σ):=⟨Nat.le_refl _,λ_ _ _=>rfl,λ_ h _=>h⟩
  have hss:∀s,live st.heap s->live st.heap s/\σ s=σ s:=λs h=>⟨h,rfl⟩
  exact⟨σ,⟨hs.frame.os,hs.frame.tape,hs.frame.output,hs.frame.size,hs.frame.block⟩,hs.new,hs.apart,hs.defers,hs.nt,λt=>(hs.slots t).mono hk hss,
   ⟨λs b hb=>cw.mono hk hss (ax.2 ⟨b,hb⟩) (λ_ _=>rfl) (hs.holds.blk s b hb),hs.holds.inj⟩,hs.glob,hs.globF,hs.fix⟩
 have hc:=Df hclean;generalize hcl0:(λi:Nat=>((closure ops.toList [])[i]?).getD [])=cl at hc;generalize hlt0:vN ops.toList (closure ops.toList [])=lt at hc;have hdst:∀{o:Oper},cM nt o.dst=true-> ∀e,o.dst=some e->e<E.nt:=λh=>by rw[hn];exact cP h
 have prog:∀(listed:Array Bool),listed.size=ops.size->Region.ready .any ops listed=[]-> ∀j,j<ops.size->listed.getD j false=true:=by
  intro listed hsz hr j;induction j using Nat.strongRecOn with
  |_ j ih =>
   intro hj;cases hlj:listed.getD j false with
   |true=>rfl
   |false =>
    have ho:ops.toList[j]? =some ops[j]:=by rw[aW];exact Array.getElem?_eq_getElem hj
    have:j∈Region.ready .any ops listed:=(eW hsz).2 ⟨ops[j],ho,hlj,λe he=>by
     have:=hc.edge j _ ho e he;exact ih e this (by omega)⟩
    rw[hr]at this;cases this
 have key : ∀ (fuel : Nat) (listed : Array Bool), listed.size = ops.size -> ((List.range ops.size).filter fun j => !listed.getD j false).length <= fuel -> ∀ (f : Nat) (done virt : List Nat) (st : St) (a : Act) (w : World), jM cx nt ops.toList k f done virt st ->
     Inv cx nt ops cl lt E (λj=>listed.getD j false) done virt st a w->wpAny cx.P .any ops Q fuel listed a w:=by
  intro fuel;induction fuel with
  |zero =>
   intro listed hsz hcnt;have hall:∀j,j<ops.size->listed.getD j false=true:=λj hj=>by
    cases h:listed.getD j false with
    |true=>rfl
    |false =>
     have:j∈(List.range ops.size).filter λj=> !listed.getD j false:=List.mem_filter.2 ⟨List.mem_range.2 hj,by simp[h]⟩
     have:=List.length_pos_of_mem this;omega
   intro f;cases f with
   |zero=>intro done virt st a w h _;exact h.elim
   |succ f =>
    intro done virt st a w h hi;refine⟨?_,?_⟩
    . rw[List.eq_nil_iff_forall_not_mem];intro i hi;obtain⟨o,ho,h1,_⟩:=(eW hsz).1 hi;have:i<ops.size:=by have:=(aq.1 ho).1;simpa using this
      rw[hall i this]at h1;cases h1
    . have hnil:gy ops.toList done=[]:=by
       rw[List.eq_nil_iff_forall_not_mem];intro i hir;obtain⟨o,ho,h1,_⟩:=iI.1 hir;exact h1 (hi.sub i (hall i (by have:=(aq.1 ho).1;simpa using this)))
      simp only[jM,hnil,iA]at h;obtain⟨p,hp,hag⟩:=hi.act;have hpa:p=a:=hag.eq λt ⟨x,o,_,hx,ho,_⟩=>by
       have:=hall x (by have:=(aq.1 ho).1;simpa using this);rw[this]at hx;cases hx
      exact hQ st a w h (hpa ▸ hp)
  |succ fuel ih =>
   intro listed hsz hcnt f;induction f with
   |zero=>intro done virt st a w h _;exact h.elim
   |succ f ihf =>
    intro done virt st a w h hi;rw[jM]at h;split at h
    . -- gone over at once
      rename_i i hfp;obtain⟨hir,⟨o,ho,hp⟩,hlw⟩:=jf hfp;rw[hlt0]at hlw;obtain⟨o',ho',hnd,hbd⟩:=iI.1 hir;rw[ho]at ho';cases ho';rw[ho]at h;dsimp only at h;have hnl:listed.getD i false=false:=by
       cases hl:listed.getD i false with
       |false=>rfl
       |true=>exact absurd (hi.sub i hl) hnd
      obtain⟨p,hsp,hag⟩:=hi.act
      have next : ∀ {v : AV} {z : Value}, cM nt o.dst = true -> Sim cx E (st.put o.dst v []) (p.put o.dst z) w -> ((eZ ops.toList st o true /\ opK cx o.dst o.type st o.op (kF v [])) \/ (eZ ops.toList st o false /\ v = .tuple [])) ->
          jM cx nt ops.toList k f (i::done) (i::virt) (st.put o.dst v [])->wpAny cx.P .any ops Q (fuel+1) listed a w:=by
       intro v z hd hsim hor hk;refine ihf _ _ _ _ _ hk ⟨λj hj=>aZ _ (hi.sub j hj),⟨_,hsim,?_⟩,λx hx hxl=>?_,λj hj x hx=>?_,hi.downL⟩
       . refine(hag.Jy o.dst z).mono λt ht=>?_
         rcases ht with ⟨x,ox,h1,h2,h3,h4⟩|e
         . exact⟨x,ox,aZ _ h1,h2,h3,h4⟩
         . exact⟨i,o,List.mem_cons_self .., hnl,ho,e⟩
       . rcases List.mem_cons.1 hx with rfl|hx
         . exact⟨⟨List.mem_cons_self .., hlw⟩,Bv hc ho hp hd hor⟩
         . exact⟨⟨aZ _ (hi.re x hx hxl).1.1,(hi.re x hx hxl).1.2⟩,tq hc hi.downD ho hnd hx (.inl hlw) (hi.re x hx hxl).2⟩
       . rcases List.mem_cons.1 hj with rfl|hj
         . exact aZ _ (pA hc (S:=(· ∈done)) hi.downD ho hbd x hx)
         . exact aZ _ (hi.downD j hj x hx)
      rcases lT h with ⟨hw,h⟩|⟨hw,h⟩
      . unfold Cz at h;split at h
        . rename_i hd;obtain⟨v,bs,hk,_,hj⟩:=AG h;split at hk
          . obtain⟨v',bs',hok,rfl,rfl⟩:=qf hT hj;obtain⟨_,hval⟩:=hok.2 hp;obtain⟨σ,hss⟩:=hsp;obtain⟨z,_,hrz⟩:=hval E st σ p w (St.le.refl _) hss;exact next hd ⟨σ,hss.put (hdst hd) hrz⟩ (.inl ⟨hw,hj⟩) hk
          . exact hk.elim
        . exact h.elim
      . split at h
        . rename_i hd;exact next hd (fp (hdst hd) hsp) (.inr ⟨hw,rfl⟩) h
        . exact h.elim
    . rename_i hnofp;refine⟨λhr=>?_,λi hir=>?_⟩
      . have hall:=prog listed hsz hr;have hnil:gy ops.toList done=[]:=by
         rw[List.eq_nil_iff_forall_not_mem];intro i hir;obtain⟨o,ho,h1,_⟩:=iI.1 hir;exact h1 (hi.sub i (hall i (by have:=(aq.1 ho).1;simpa using this)))
        rw[hnil]at h;obtain⟨p,hp,hag⟩:=hi.act;have hpa:p=a:=hag.eq λt ⟨x,o,_,hx,ho,_⟩=>by
         have:=hall x (by have:=(aq.1 ho).1;simpa using this);rw[this]at hx;cases hx
        exact hQ st a w h (hpa ▸ hp)
      . obtain⟨o,ho,hiL,hedges⟩:=(eW hsz).1 hir;have hin:i<ops.size:=by have:=(aq.1 ho).1;simpa using this
        have ho' :ops[i]? =some o:=by rw[<- aW];exact ho
        have hcl:∀x∈cl i,listed.getD x false=true:=pA hc (S:=λx=>listed.getD x false=true) hi.downL ho hedges;have hset:∀j,(listed.setIfInBounds i true).getD j false=if j=i then true else listed.getD j false:=λj=>by
         simp only[bp];by_cases e:j=i
         . subst e;simp[show j<listed.size by omega]
         . rw[if_neg e,Array.getElem?_setIfInBounds_ne (λh=>e h.symm)]
        have hsz' :(listed.setIfInBounds i true).size=ops.size:=by simp[hsz]
        have hcnt' :((List.range ops.size).filter λj=> !(listed.setIfInBounds i true).getD j false).length<=fuel:=by
         have:=yn (p:=λj=> !listed.getD j false) (p' :=λj=> !(listed.setIfInBounds i true).getD j false) (λj hj=>by
          rw[hset]at hj;split at hj
          . simp at hj
          . exact hj) (i:=i) (by simp only[hiL];rfl) (by rw[hset];simp) (List.mem_range.2 hin)
         omega
        have hlk:=hi.He hc ho hcl;have hsel:=hc.sel i o ho;have hdownL:∀j,(listed.setIfInBounds i true).getD j false=true-> ∀x∈cl j,(listed.setIfInBounds i true).getD x false=true:=λj hj x hx=>by
         rw[hset];split
         . rfl
         . rw[hset]at hj;split at hj
           . rename_i e;subst e;exact hcl x hx
           . exact hi.downL j hj x hx
        have hD : ∀ (dn : List Nat), (∀ x ∈ done, x ∈ dn) -> ∀ t, (∃ x o, x ∈ done /\ listed.getD x false = false /\ ops.toList[x]? = some o /\ o.dst = some t) /\ o.dst ≠ some t ->
            ∃x o,x∈dn/\(listed.setIfInBounds i true).getD x false=false/\ops.toList[x]? =some o/\o.dst=some t:=by
         rintro dn hdn t ⟨⟨x,ox,h1,h2,h3,h4⟩,hne⟩;refine⟨x,ox,hdn x h1,?_,h3,h4⟩;rw[hset,if_neg]
         . exact h2
         . intro e;subst e;rw[ho]at h3;cases h3;exact hne h4
        obtain⟨p,hsp,hag⟩:=hi.act;have hwant:=hag.wanted hlk;unfold wpOp;rw[ho'];dsimp only;by_cases hid:i∈done
        . -- it was gone over
          obtain⟨_,o2,v,hox,hp,hd,hv,hor⟩:=hi.re i hid hiL;rw[ho]at hox;cases hox;have fin:∀{z:Value},Sim cx E (st.put o.dst v []) (p.put o.dst z) w->wpAny cx.P .any ops Q fuel (listed.setIfInBounds i true) (a.put o.dst z) w:=by
           intro z hsim;have hext:Sim cx E st (p.put o.dst z) w:=hsim.ext (λt=>by
            rw[St.eV];split
            . rename_i e;exact hv t e
            . rfl) (λs=>rfl)
           refine ih _ hsz' hcnt' (f+1) done virt st _ w (by rw[jM,hnofp];exact h) ⟨λj hj=>?_,⟨_,hext,(hag.put o.dst z).mono (hD done λx hx=>hx)⟩,λx hx hxl=>?_,hi.downD,hdownL⟩
           . rw[hset]at hj;split at hj
             . rename_i e;subst e;exact hid
             . exact hi.sub j hj
           . rw[hset]at hxl;split at hxl
             . cases hxl
             . exact hi.re x hx hxl
          rcases hor with ⟨hw,hk⟩|⟨hw,e⟩
          . have hwp:=fy hw (λd _=>rfl) hsp;rw[<- hwant,hwp,if_pos rfl];obtain⟨v',bs',hok,rfl,rfl⟩:=qf hT hk;obtain⟨_,hval⟩:=hok.2 hp;obtain⟨σ,hss⟩:=hsp;obtain⟨z,hz,hrz⟩:=hval E st σ p w (St.le.refl _) hss;rw[hag.exec hsel hlk]at hz;refine .inl ?_;simp only[Oper.wp,hz,Oper.upon];exact fin ⟨σ,hss.put (hdst hd) hrz⟩
          . have hwp:=fy hw (λd _=>rfl) hsp;rw[<- hwant,hwp];simp only[eR,if_false];subst e;exact fin (fp (hdst hd) hsp)
        . -- it comes up
          have hbd:∀e∈eK o,e∈done:=λe he=>hi.sub e (hedges e he)
          have hmem:i∈gy ops.toList done:=iI.2 ⟨o,ho,hid,hbd⟩;have hthis:ia ops.toList st o (iX cx nt false o st λst' =>wc cx ops.toList st st' (sj ops.toList i virt) (jM cx nt ops.toList k f (i::done) virt st')) (match cM nt o.dst with|true=>jM cx nt ops.toList k f (i::done) virt (st.put o.dst (.tuple []) [])|false=>False):=by
           split at h
           . rename_i hnil;rw[hnil]at hmem;cases hmem
           . rename_i x t hx;rw[hx]at hmem;have:=pK h i hmem;rw[ho]at this;exact this
          have fin : ∀ {st1 : St} {p' a' : Act} {w' : World}, jM cx nt ops.toList k f (i :: done) virt st1 -> Sim cx E st1 p' w' -> Agr (fun t => (∃ x o, x ∈ done /\ listed.getD x false = false /\ ops.toList[x]? = some o /\ o.dst = some t) /\ o.dst ≠ some t) p' a' ->
              (∀x∈done,listed.getD x false=false->(x∈virt/\lt x=false)/\pI cx nt ops.toList st1 x)->wpAny cx.P .any ops Q fuel (listed.setIfInBounds i true) a' w' :=by
           intro st1 p' a' w' hk hsim hag' hre;refine ih _ hsz' hcnt' f _ _ _ _ _ hk ⟨λj hj=>?_,⟨_,hsim,hag'.mono (hD (i::done) λx hx=>aZ _ hx)⟩,λx hx hxl=>?_,λj hj x hx=>?_,hdownL⟩
           . rw[hset]at hj;split at hj
             . rename_i e;subst e;exact List.mem_cons_self ..
             . exact aZ _ (hi.sub j hj)
           . rw[hset]at hxl;split at hxl
             . cases hxl
             . rename_i hne;rcases List.mem_cons.1 hx with e|hx
               . exact absurd e hne
               . exact hre x hx hxl
           . rcases List.mem_cons.1 hj with rfl|hj
             . exact aZ _ (pA hc (S:=(· ∈done)) hi.downD ho hbd x hx)
             . exact aZ _ (hi.downD j hj x hx)
          rcases lT hthis with ⟨hw,hy⟩|⟨hw,hy⟩
          . have hwp:=fy hw (λd _=>rfl) hsp;rw[<- hwant,hwp,if_pos rfl];obtain⟨st1,k1,k2⟩:=gr hT hy;obtain⟨k2,hst⟩:=xQ k2;refine .inl (Oper.wp_mono (λa' w' =>?_) (Su hag hsel hlk (k1 E p w (λ_ _ _=>False) hn hsp)));rintro⟨p',hsp',hag'⟩;refine fin k2 hsp' hag' λx hx hxl=>?_
            obtain⟨hxv,hre⟩:=hi.re x hx hxl;refine⟨hxv,BR hre (hst x ?_)⟩;unfold sj;refine List.mem_filter.2 ⟨hxv.1,?_⟩;have hnm:¬x∈cl i:=λhm=>by rw[hcl x hm]at hxl;cases hxl
            rw[<- hcl0]at hnm;simp only[Bool.not_eq_true', <- Bool.not_eq_true];exact λe=>hnm (cY.1 e)
          . have hwp:=fy hw (λd _=>rfl) hsp;rw[<- hwant,hwp];simp only[eR,if_false];split at hy
            . rename_i hd;exact fin hy (fp (hdst hd) hsp) (hag.put o.dst Go.undef) λx hx hxl=>⟨(hi.re x hx hxl).1,tq hc hi.downD ho hid hx (.inr λhm=>by rw[hcl x hm]at hxl;cases hxl) (hi.re x hx hxl).2⟩
            . exact hy.elim
 refine key ops.size _ (by simp) ?_ (ops.size+1) [] [] st a _ h ⟨λj hj=>?_,⟨a,hs0,rfl,rfl,λt _=>rfl⟩,λx hx=>(by cases hx),λj hj=>(by cases hj),λj hj=>?_⟩
 . refine Nat.le_trans (List.length_filter_le _ _) (by simp)
 . simp[bp,Array.getElem?_replicate]at hj;split at hj <;> simp at hj
 . simp[bp,Array.getElem?_replicate]at hj;split at hj <;> simp at hj
theorem Fc{cx:Cx}{nt:Nat}(hT:ba cx)(hm:cx.P.follows .mixedOrders=true){id:Nat}{ops:Array Oper}{E:Env}(hn:E.nt=nt){Q:Exit->Act->World->Prop}{k:St->Prop}{st:St}{a:Act}{w:World}(hclean:bA ops.toList=true)
 (h:jM cx nt ops.toList k (ops.size+1) [] [] st) (hs:Sim cx E st a w) (hQ:∀st' a' w',k st' ->Sim cx E st' a' w' ->Q .normal a' w'):(Code.region id ops true).wp cx.P Q a w:=wp_region_any hm (Mz hT hn hclean h hs hQ)
end NQ
