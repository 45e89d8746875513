/-
  Texts of the proof, merged in build order.
-/
import Derived.Test.YtjapjahfllomkaaGreatDoorAbM
import Derived.Test.YtjapjahfllomkaaGreatDoorMQn
import Derived.Test.YtjapjahfllomkaaGreatDoorQcpM
import Derived.Deep.LoopGhost
import Derived.Tactics
set_option linter.all false
namespace NQ
open Go Go.RowKit
def o9(c:Call):Option (Operand×Operand×TypeId) :=
 match c.callee,c.args.toList,c.argTypes.toList with
 | .builtin .append,[s,x],[t,t']=>(match Nat.beq t t' with | true=>some (s,x,t) | false=>none)
 | _,_,_=>none
def N2(cx:Cx)(st:St)(d:Option Nat)(ty:TypeId)(c:Call)(k:AV->St->Prop):Prop :=
 opK cx d ty (st.bC (qP (cy cx st c.args.toList c.argTypes.toList))) (.call c) fun v bs=>(match bs with | []=>k v (st.bC (qP (cy cx st c.args.toList c.argTypes.toList))) | _=>False)
def Kx(cx:Cx)(o:Oper)(st:St)(k:St->Prop):Prop :=
 match o.op with
 | .store t ad v=>CG cx st t (st.ev cx ad) (st.ev cx v) fun hp=>k ⟨bG st.slots o.dst (.tuple []),hp⟩
 | .mapUpdate t m key v=>uE cx st t (st.ev cx m) (st.ev cx key) (st.ev cx v) fun hp=>k ⟨bG st.slots o.dst (.tuple []),hp⟩
 | .insert t m key v=>uE cx st t (st.ev cx m) (st.ev cx key) (st.ev cx v) fun hp=>k ⟨bG st.slots o.dst (.tuple []),hp⟩
 | .call c=>(match o9 c with
  | some (s,x,t)=>yl cx st o.dst t (st.ev cx s) (jB cx t (st.ev cx x)) fun v sl hp=>k ⟨bG sl o.dst v,hp⟩
  | none=>(match c.callee with
   | .value (.func f)=>(match Nat.beq (cx.chg f) 3 with
    | true=>wY cx st (st.ev cx (.func f)) (cy cx st c.args.toList c.argTypes.toList) fun v st1=>k ⟨bG st1.slots o.dst v,st1.heap⟩
    | false=>(match Nat.beq (cx.chg f) 5 with
     | true=>N2 cx st o.dst o.type c fun v st1=>k ⟨bG st1.slots o.dst v,st1.heap⟩
     | false=>(match Nat.beq (cx.chg f) 6 with
      | true=>tn cx st (st.ev cx (.func f)) (cy cx st c.args.toList c.argTypes.toList) fun v st1=>k ⟨bG st1.slots o.dst v,st1.heap⟩
      | false=>La cx st o.dst (Nat.beq (cx.chg f) 1) f c.args.toList c.argTypes.toList fun v st1=>k ⟨bG st1.slots o.dst v,st1.heap⟩)))
   | _=>False))
 | _=>False
def AI(mt:Nat->Nat):Op->Bool
 | .store .. =>true
 | .mapUpdate .. =>true
 | .insert .. =>true
 | .call c=>(match c.callee with | .builtin .append=>true | .value (.func f)=>(match mt f with | 0=>false | 4=>false | _=>true) | _=>false)
 | _=>false
def qI(h:List (Nat×Blk)):List (Nat×Blk)->Bool
 | []=>true
 | (s,_)::t=>(match find h s with | none=>qI h t | some _=>false)
def dC(nt:Nat):Option Nat->Bool
 | some d=>Nat.blt d nt
 | none=>true
def rH:Op->Bool
 | .call c=>(match c.callee with | .builtin _=>false | _=>true)
 | _=>false
def J7(dr:Bool)(op:Op):List (Nat×Blk)->Bool
 | []=>true
 | _=>(match dr with | true=> !rH op | false=>true)
def gh(cx:Cx)(nt:Nat)(dr:Bool)(o:Oper)(st:St)(k:St->Prop):Prop :=
 match dC nt o.dst,AI cx.chg o.op with
 | true,true=>Kx cx o st k
 | true,false=>opK cx o.dst o.type st o.op fun v bs=>(match J7 dr o.op bs,qI st.heap bs with | true,true=>k (st.put o.dst v bs) | _,_=>False)
 | false,_=>False
def kY(ops:List Oper)(st:St)(o:Oper)(yes no:Prop):Prop :=
 match o.guard with
 | none=>yes
 | some (j,want)=>(match ops[j]? with
  | some oj=>(match oj.dst with
   | some d=>(match st.get d with
    | .d (.bool b)=>(match want with
     | true=>ot b yes no
     | false=>ot b no yes)
    | .tuple []=>no
    | _=>False)
   | none=>False)
  | none=>False)
def oi(cx:Cx)(nt:Nat)(dr:Bool)(ops:List Oper):List Oper->(St->Prop)->St->Prop
 | [],k,st=>k st
 | o::rest,k,st=>kY ops st o (gh cx nt dr o st fun st' =>oi cx nt dr ops rest k st') (match dC nt o.dst with | true=>oi cx nt dr ops rest k (st.put o.dst (.tuple []) []) | false=>False)
section
variable {cx:Cx} {st:St} {nt:Nat}
theorem pG{h:List (Nat×Blk)}:∀{bs:List (Nat×Blk)},qI h bs=true-> ∀s,live bs s-> ¬live h s
 | [],_,s,hl=>by simp[live,find]at hl
 | (x,b)::t,hf,s,hl=>by
  simp only[qI]at hf;split at hf
  . rename_i hx;by_cases e:x=s
    . subst e;unfold live;rw[hx];simp
    . exact pG hf s (by unfold live at hl ⊢;rwa [bc _ _ e]at hl)
  . cases hf
theorem c8{d:Option Nat}(h:dC nt d=true):∀e,d=some e->e<nt:=fun e he=>by
 subst he;exact Nat.lt_of_lt_of_le (Nat.lt_of_succ_le (ai h)) (Nat.le_refl _)
theorem ML(hT:bB cx){o:Oper}{k:St->Prop}(h:Kx cx o st k):∃st1,kD cx o st st1/\k st1:=by
 unfold Kx at h;split at h
 . rename_i ho;obtain⟨hp,h1,h2⟩:=LN hT ho h;exact⟨_,h1,h2⟩
 . rename_i ho;obtain⟨hp,h1,h2⟩:=zC hT (.inl ho) h;exact⟨_,h1,h2⟩
 . rename_i ho;obtain⟨hp,h1,h2⟩:=zC hT (.inr ho) h;exact⟨_,h1,h2⟩
 . rename_i c ho;split at h
   . rename_i s x t hc;have hc' :c={callee:= .builtin .append,args:= #[s,x],argTypes:= #[t,t]}:=by
      unfold o9 at hc;split at hc
      . rename_i s' x' t1 t2 h1 h2 h3;split at hc
        . rename_i hb;cases hc;obtain rfl:t=t2:=ba hb;obtain⟨cc,ca,ct⟩:=c;simp only at h1 h2 h3;subst h1;have e1:ca= #[s,x]:=by rw[<- Array.toList_inj];exact h2
          have e2:ct= #[t,t]:=by rw[<- Array.toList_inj];exact h3
          rw[e1,e2]
        . cases hc
      . cases hc
     rw[hc']at ho;obtain⟨v,sl,hp,h1,h2⟩:=Hf hT ho h;exact⟨_,h1,h2⟩
   . split at h
     . rename_i f hcal;split at h
       . obtain⟨v,st1,h1,h2⟩:=Ba ho hcal h;exact⟨_,h1,h2⟩
       . split at h
         . unfold N2 at h;rw[<- ho]at h;obtain⟨v,bs,h1,h2⟩:=tK hT h;cases bs with
           | nil=>exact⟨_,fun E a w Q hd hs=>h1.1 E _ a w Q (St.le.refl _) hd (fun s hl=>by simp[live,find]at hl) (hs.bC _),h2⟩
           | cons _ _=>exact h2.elim
         . split at h
           . obtain⟨v,st1,h1,h2⟩:=wh ho hcal h;exact⟨_,h1,h2⟩
           . obtain⟨v,st1,h1,h2⟩:=Oa ho hcal h;exact⟨_,h1,h2⟩
     . exact h.elim
 . exact h.elim
theorem gk(hT:bB cx){dr:Bool}{o:Oper}{k:St->Prop}(h:gh cx nt dr o st k):∃st1,(∀(E:Env) a w (Q:Exit->Act->World->Prop),E.nt=nt->Sim cx E st a w->o.wp cx.P a w (fun a' w' =>Sim cx E st1 a' w') Q)/\k st1:=by
 unfold gh at h;split at h
 . rename_i hd _;obtain⟨st1,h1,h2⟩:=ML hT h;exact⟨st1,fun E a w Q hn hs=>h1 E a w Q (by rw[hn];exact c8 hd) hs,h2⟩
 . rename_i hd _;obtain⟨v,bs,h1,h2⟩:=tK hT h;split at h2
   . rename_i _ hf;exact⟨_,fun E a w Q hn hs=>h1.1 E st a w Q (St.le.refl st) (by rw[hn];exact c8 hd) (pG hf) hs,h2⟩
   . exact h2.elim
 . exact h.elim
theorem pq{ops:Array Oper}{tmps:Array Value}{j d:Nat}{oj:Oper}{b:Bool}(hj:ops[j]? =some oj)(hd:oj.dst=some d)(h:tmps.getD d Go.undef= .bool b):yielded ops tmps j=some b:=by
 unfold yielded;simp only[hj,Option.bind_some,hd];cases ht:tmps[d]? with
 | none=>simp[ht,Go.undef]at h
 | some v=>simp[ht]at h;subst h;rfl
theorem uk{ops:Array Oper}{tmps:Array Value}{j d:Nat}{oj:Oper}(hj:ops[j]? =some oj)(hd:oj.dst=some d)(h:tmps.getD d Go.undef= .tuple #[]):yielded ops tmps j=none:=by
 unfold yielded;simp only[hj,Option.bind_some,hd];cases ht:tmps[d]? with
 | none=>rfl
 | some v=>simp[ht]at h;subst h;rfl
theorem ni{ops:Array Oper}{o:Oper}{yes no:Prop}(h:kY ops.toList st o yes no){E:Env}{a:Act}{w:World}(hs:Sim cx E st a w) :
 (Region.wanted o (yielded ops a.tmps)=true/\yes)\/(Region.wanted o (yielded ops a.tmps)=false/\no):=by
 obtain⟨σ,hs⟩:=hs;unfold kY at h;split at h
 . rename_i hg;exact .inl ⟨by simp[Region.wanted,hg],h⟩
 . rename_i j want hg;split at h
   . rename_i oj hj;have hj' :ops[j]? =some oj:=by rw[<- bl];exact hj
     split at h
     . rename_i d hd;split at h
       . rename_i b hb;have hr:=hs.slots d;rw[hb]at hr;have hy:=pq hj' hd hr.bool;cases want <;> cases b <;> simp only[ot]at h
         . exact .inl ⟨by simp[Region.wanted,hg,hy],h⟩
         . exact .inr ⟨by simp[Region.wanted,hg,hy],h⟩
         . exact .inr ⟨by simp[Region.wanted,hg,hy],h⟩
         . exact .inl ⟨by simp[Region.wanted,hg,hy],h⟩
       . rename_i hb;have hr:=hs.slots d;rw[hb]at hr;have hv:a.tmps.getD d Go.undef= .tuple #[]:=by
          generalize a.tmps.getD d Go.undef=u at hr
          cases hr with | tuple _ vs hl _ =>
           have:vs= #[]:=Array.eq_empty_of_size_eq_zero hl;rw[this]
         have hy:=uk hj' hd hv;exact .inr ⟨by simp[Region.wanted,hg,hy],h⟩
       . exact h.elim
     . exact h.elim
   . exact h.elim
theorem jo{E:Env}{a:Act}{w:World}{d:Option Nat}(hd:∀e,d=some e->e<E.nt)(hs:Sim cx E st a w):Sim cx E (st.put d (.tuple []) []) (a.put d Go.undef) w:=by
 obtain⟨σ,hs⟩:=hs;exact⟨σ,hs.put hd (.tuple [] #[] rfl fun j c hj=>by simp at hj)⟩
theorem qR(hT:bB cx){dr:Bool}{ops:Array Oper}{E:Env}(hn:E.nt=nt){Q:Exit->Act->World->Prop}:∀(l:List Oper) {k:St->Prop} {st:St} {a:Act} {w:World},oi cx nt dr ops.toList l k st->Sim cx E st a w ->
 (∀st' a' w',k st' ->Sim cx E st' a' w' ->Q .normal a' w')->wpList cx.P ops Q l a w
 | [],k,st,a,w,h,hs,hQ=>hQ st a w h hs
 | o::rest,k,st,a,w,h,hs,hQ=>by
  simp only[oi]at h;unfold wpList;rcases ni h hs with ⟨hw,h⟩ | ⟨hw,h⟩
  . rw[if_pos hw];obtain⟨st1,h1,h2⟩:=gk hT h;exact .inl (Oper.wp_mono (fun a' w' hs' =>qR hT hn rest h2 hs' hQ) (h1 E a w Q hn hs))
  . rw[if_neg (by simp[hw])];split at h
    . rename_i hd;exact qR hT hn rest h (jo (by rw[hn];exact c8 hd) hs) hQ
    . exact h.elim
def Gq:AV->Option Nat
 | .own s=>some s
 | _=>none
def CK(st:St)(v:AV):Option Nat :=
 match Gq v with
 | some s=>(match find st.heap s with | some (.tail ..)=>some s | _=>none)
 | none=>none
theorem Ci{v:AV}{s:Nat}(h:Gq v=some s):v= .own s:=by
 cases v <;> cases h;rfl
theorem Jp{v:AV}{s:Nat}(h:CK st v=some s):v= .own s:=by
 unfold CK at h;split at h
 . rename_i s' e;split at h
   . cases h;exact Ci e
   . cases h
 . cases h
theorem Dz{c:Call}{s x:Operand}{t:TypeId}(hc:o9 c=some (s,x,t)):c={callee:= .builtin .append,args:= #[s,x],argTypes:= #[t,t]}:=by
 unfold o9 at hc;split at hc
 . rename_i s' x' t1 t2 h1 h2 h3;split at hc
   . rename_i hb;cases hc;obtain rfl:t=t2:=ba hb;obtain⟨cc,ca,ct⟩:=c;simp only at h1 h2 h3;subst h1;have e1:ca= #[s,x]:=by rw[<- Array.toList_inj];exact h2
     have e2:ct= #[t,t]:=by rw[<- Array.toList_inj];exact h3
     rw[e1,e2]
   . cases hc
 . cases hc
def GG(cx:Cx)(nt:Nat)(o:Oper)(st:St)(k:St->Prop):Prop :=
 match o.op with
 | .slice t x (some lo) none none=>(match Gq (st.ev cx x),dC nt o.dst with
  | some s,true=>wP cx st t s (st.ev cx lo) fun v sl hp=>k ⟨bG sl o.dst v,hp⟩
  | some _,false=>False
  | none,_=>gh cx nt false o st k)
 | .call c=>(match c.callee with
  | .builtin .append=>(match o9 c with
   | some (s,x,t)=>(match CK st (st.ev cx s),dC nt o.dst with
    | some site,true=>wO cx st t site (jB cx t (st.ev cx x)) fun v sl hp=>k ⟨bG sl o.dst v,hp⟩
    | some _,false=>False
    | none,_=>gh cx nt false o st k)
   | none=>gh cx nt false o st k)
  | .value (.tmp t)=>(match dC nt o.dst with
   | true=>(match callee (st.ev cx (.tmp t))with
    | some (g,_,_)=>(match Nat.beq (cx.chg g) 6 with
     | true=>tn cx st (st.ev cx (.tmp t)) (cy cx st c.args.toList c.argTypes.toList) fun v st1=>k ⟨bG st1.slots o.dst v,st1.heap⟩
     | false=>wY cx st (st.ev cx (.tmp t)) (cy cx st c.args.toList c.argTypes.toList) fun v st1=>k ⟨bG st1.slots o.dst v,st1.heap⟩)
    | none=>False)
   | false=>False)
  | .value (.func f)=>(match Nat.beq (cx.chg f) 6 with
   | true=>(match dC nt o.dst with
    | true=>tn cx st (st.ev cx (.func f)) (cy cx st c.args.toList c.argTypes.toList) fun v st1=>k ⟨bG st1.slots o.dst v,st1.heap⟩
    | false=>False)
   | false=>gh cx nt false o st k)
  | _=>gh cx nt false o st k)
 | _=>gh cx nt false o st k
theorem LK(hT:bB cx){o:Oper}{k:St->Prop}(h:GG cx nt o st k):∃st1,(∀(E:Env) a w (Q:Exit->Act->World->Prop),E.nt=nt->Sim cx E st a w->o.wp cx.P a w (fun a' w' =>Sim cx E st1 a' w') Q)/\k st1:=by
 unfold GG at h;split at h
 . rename_i t x lo ho;split at h
   . rename_i s hs hd;obtain⟨v,sl,hp,h1,h2⟩:=GL hT ho (Ci hs) h;exact⟨_,fun E a w Q hn hs=>h1 E a w Q (by rw[hn];exact c8 hd) hs,h2⟩
   . exact h.elim
   . exact gk hT h
 . rename_i c ho;split at h
   . split at h
     . rename_i s x t hc;split at h
       . rename_i site hs hd;rw[Dz hc]at ho;obtain⟨v,sl,hp,h1,h2⟩:=GK hT ho (Jp hs) h;exact⟨_,fun E a w Q hn hs=>h1 E a w Q (by rw[hn];exact c8 hd) hs,h2⟩
       . exact h.elim
       . exact gk hT h
     . exact gk hT h
   . rename_i t hc;split at h
     . rename_i hd;split at h
       . split at h
         . obtain⟨v,st1,h1,h2⟩:=wh ho hc h;exact⟨_,fun E a w Q hn hs=>h1 E a w Q (by rw[hn];exact c8 hd) hs,h2⟩
         . obtain⟨v,st1,h1,h2⟩:=Ba ho hc h;exact⟨_,fun E a w Q hn hs=>h1 E a w Q (by rw[hn];exact c8 hd) hs,h2⟩
       . exact h.elim
     . exact h.elim
   . rename_i f hc;split at h
     . split at h
       . rename_i hd;obtain⟨v,st1,h1,h2⟩:=wh ho hc h;exact⟨_,fun E a w Q hn hs=>h1 E a w Q (by rw[hn];exact c8 hd) hs,h2⟩
       . exact h.elim
     . exact gk hT h
   . exact gk hT h
 . exact gk hT h
def seqB(cx:Cx)(nt:Nat)(ops:List Oper):List Oper->(St->Prop)->St->Prop
 | [],k,st=>k st
 | o :: rest, k, st => kY ops st o (match CX cx st o with
     | some (s,left)=>(match dC nt o.dst with
      | true=>(left=[]->seqB cx nt ops rest k ⟨bG st.slots o.dst (.tuple [.d (.bool false)]),st.heap⟩)/\ ∀i kk x,left[i]? =some (kk,x)->seqB cx nt ops rest k ⟨bG st.slots o.dst (ER kk x),(s, .iter (left.eraseIdx i) (some (kk,x)))::st.heap⟩
      | false=>False)
     | none=>(match yO cx st o with
      | some (d,m)=>(match dC nt o.dst,find st.heap d with
       | true,none=>seqB cx nt ops rest k ⟨bG st.slots o.dst (.ptr d 0),(d, .iter m none)::st.heap⟩
       | _,_=>False)
      | none=>(match yu cx st o with
       | some (kk,x)=>(match dC nt o.dst with
        | true=>seqB cx nt ops rest k ⟨bG st.slots o.dst (.tuple [(wq kk).cT,x.cT]),st.heap⟩
        | false=>False)
       | none=>(match Bo cx st o with
        | some r=>(match dC nt o.dst with
         | true=>r.rows2.length=r.rows.length/\seqB cx nt ops rest k ⟨bG st.slots o.dst (.d (.int .i64 r.rows.length)),(r.s, .row r.e r.sz r.rows2 r.fl)::st.heap⟩
         | false=>False)
        | none=>(match Cm cx st o with
         | some (g,as)=>(match dC nt o.dst with
          | true=> ∃(ι:Type) (res:ι->AV) (bs:ι->List (Nat×Blk)),(FnC cx g as res bs/\ ∀i,tB (bs i)=true/\qI st.heap (bs i)=true)/\ ∀i,seqB cx nt ops rest k (st.put o.dst (res i) (bs i))
          | false=>False)
         | none=>GG cx nt o st fun st' =>seqB cx nt ops rest k st'))))) (match dC nt o.dst with | true=>seqB cx nt ops rest k (st.put o.dst (.tuple []) []) | false=>False)
theorem iS(hT:bB cx){ops:Array Oper}{E:Env}(hn:E.nt=nt){Q:Exit->Act->World->Prop}:∀(l:List Oper) {k:St->Prop} {st:St} {a:Act} {w:World},seqB cx nt ops.toList l k st->Sim cx E st a w ->
 (∀st' a' w',k st' ->Sim cx E st' a' w' ->Q .normal a' w')->wpList cx.P ops Q l a w
 | [],k,st,a,w,h,hs,hQ=>hQ st a w h hs
 | o::rest,k,st,a,w,h,hs,hQ=>by
  simp only[seqB]at h;unfold wpList;rcases ni h hs with ⟨hw,h⟩ | ⟨hw,h⟩
  . rw[if_pos hw];split at h
    . rename_i s left hwk;split at h
      . rename_i hd;exact .inl (Nj hwk (by rw[hn];exact c8 hd) hs (fun he a' w' hs' =>iS hT hn rest (h.1 he) hs' hQ) fun i kk x hx a' w' hs' =>iS hT hn rest (h.2 i kk x hx) hs' hQ)
      . exact h.elim
    . split at h
      . rename_i d m hr;split at h
        . rename_i hd hf;exact .inl (Oper.wp_mono (fun a' w' hs' =>iS hT hn rest h hs' hQ) (IL hT hr hf E a w Q (by rw[hn];exact c8 hd) hs))
        . exact h.elim
      . split at h
        . rename_i kk x he;split at h
          . rename_i hd;exact .inl (Oper.wp_mono (fun a' w' hs' =>iS hT hn rest h hs' hQ) (Ky he E a w Q (by rw[hn];exact c8 hd) hs))
          . exact h.elim
        . split at h
          . rename_i r hr;split at h
            . rename_i hd;exact .inl (Oper.wp_mono (fun a' w' hs' =>iS hT hn rest h.2 hs' hQ) (MJ hT hr h.1 E a w Q (by rw[hn];exact c8 hd) hs))
            . exact h.elim
          . split at h
            . rename_i g as hpk;split at h
              . rename_i hd;obtain⟨ι,res,bs,⟨hFn,hbs⟩,h2⟩:=h;exact .inl (Oper.wp_mono (fun a' w' ⟨i,hs'⟩=>iS hT hn rest (h2 i) hs' hQ) (Np hpk hFn (fun i=>(hbs i).1) (fun i=>pG (hbs i).2) E a w Q (by rw[hn];exact c8 hd) hs))
              . exact h.elim
            . obtain⟨st1,h1,h2⟩:=LK hT h;exact .inl (Oper.wp_mono (fun a' w' hs' =>iS hT hn rest h2 hs' hQ) (h1 E a w Q hn hs))
  . rw[if_neg (by simp[hw])];split at h
    . rename_i hd;exact iS hT hn rest h (jo (by rw[hn];exact c8 hd) hs) hQ
    . exact h.elim
end
def bT(x:Nat):List Nat->Bool
 | []=>false
 | y::t=>(match Nat.beq x y with | true=>true | false=>bT x t)
theorem c9{x:Nat}:∀{l:List Nat},bT x l=true ↔ x∈l
 | []=>by simp[bT]
 | y::t=>by
  simp only[bT];by_cases h:x=y
  . subst h;simp
  . have:Nat.beq x y=false:=by rw[<- Bool.not_eq_true];exact fun e=>h (ba e)
    rw[this];simp[c9 (l:=t),h]
def fh(o:Oper):List Nat:=(o.after.toList.filter (Region.binds .any)).map (·.on)
def G6:List Nat->List Nat->List Nat
 | [],acc=>acc
 | x::t,acc=>G6 t (match bT x acc with | true=>acc | false=>x::acc)
def EZ(acc:List (List Nat)):List Nat->List Nat->List Nat
 | [],r=>r
 | e::t,r=>EZ acc t (G6 (e::(acc[e]?).getD []) r)
def closure:List Oper->List (List Nat)->List (List Nat)
 | [],acc=>acc
 | o::t,acc=>closure t (acc++[EZ acc (fh o) []])
def kL:Op->Bool
 | .alloc _=>true
 | .box .. =>true
 | .buildSlice .. =>true
 | .makeMap .. =>true
 | .makeSlice .. =>true
 | _=>false
def lv:Op->Bool
 | .indexAddr .. =>true
 | .call _=>true
 | .lookup .. =>true
 | _=>false
def jG:AV->Option Nat
 | .ptr s _=>some s
 | .rptr s _ _ _=>some s
 | _=>none
def looks(ops:List Oper)(o:Oper):List Nat :=
 (o.op.operands.toList.filterMap fun | .tmp t=>some t | _=>none)++(match o.guard with | some (g,_)=>(match ops[g]? with | some og=>og.dst.toList | none=>[]) | none=>[])
def cq(mt:Nat->Nat):List Oper->Nat
 | []=>0
 | o::t=>(match AI mt o.op with | true=>0 | false=>cq mt t+1)
def BT:Op->Bool
 | .extract .. =>true
 | .move _=>true
 | _=>false
def B5(ops:List Oper)(cx:List Nat)(m x:Nat)(ci:List Nat):Bool :=
 Nat.blt x m&&(match ops[x]? with
  | some ox => BT ox.op && (fh ox).all (fun e => bT e ci) && (ops.all fun o => match o.op with | .select .. => false | _ => true) &&
      (List.range ops.length).all (fun j=>Nat.beq j x||bT j cx||(match ops[j]? with | some oj=>oj.after.any (fun e=>Region.binds .any e&&e.on==x)||ox.apart ops.toArray oj | none=>true))
  | none=>false)
def Co(ops:List Oper)(cl:List (List Nat))(m i:Nat)(o:Oper):Bool :=
 let ci:=(cl[i]?).getD []
 (fh o).all (fun e=>Nat.blt e i&&bT e ci&&((cl[e]?).getD []).all (fun x=>bT x ci)) &&
 ci.all (fun x=>Nat.blt x i&&(fh o).any (fun e=>Nat.beq e x||bT x ((cl[e]?).getD []))) &&
 (match Nat.ble m i with
  | true=>(List.range i).all (fun x=>bT x ci||B5 ops ((cl[x]?).getD []) m x ci)
  | false => ((List.range m).all fun j => (match ops[j]? with
      | some oj=>(match Nat.beq i j with
       | true=>true
       | false => (match oj.dst with
           | some d=>(match bT d (looks ops o)with
            | true=>(match Nat.blt j i with | true=>bT j ci | false=>bT i ((cl[j]?).getD []))
            | false=>true)&&(match o.dst with | some d' => !(Nat.beq d d') | none=>true)
           | none=>true)&&(match lv o.op&&kL oj.op&&Nat.blt j i with | true=>bT j ci | false=>true))
      | none=>false)))
def uJ(ops:List Oper)(cl:List (List Nat))(m:Nat):Nat->List Oper->Bool
 | _,[]=>true
 | i,o::t=>Co ops cl m i o&&uJ ops cl m (i+1) t
def bF(mt:Nat->Nat)(ops:List Oper):Bool:=uJ ops (closure ops []) (cq mt ops) 0 ops
def FK(cx:Cx)(nt:Nat)(ops:List Oper)(k:St->Prop)(st:St):Prop:=bF cx.chg ops=true/\oi cx nt true ops ops k st
theorem vr{ops:List Oper}{cl:List (List Nat)}{m:Nat}:∀{l:List Oper} {i:Nat},uJ ops cl m i l=true-> ∀j o,l[j]? =some o->Co ops cl m (i+j) o=true
 | [],i,_,j,o,h=>by simp at h
 | x::t,i,hp,j,o,h=>by
  simp only[uJ,aR]at hp;cases j with
  | zero=>simp at h;subst h;exact hp.1
  | succ j=>simp at h;have:=vr hp.2 j o h;rwa [show i+1+j=i+(j+1) by omega]at this
theorem BJ{mt:Nat->Nat}:∀{l:List Oper} {i:Nat},i<cq mt l-> ∃o,l[i]? =some o/\AI mt o.op=false
 | [],i,h=>by simp[cq]at h
 | o::t,i,h=>by
  simp only[cq]at h;split at h
  . omega
  . rename_i he;cases i with
    | zero=>exact⟨o,rfl,he⟩
    | succ i=>exact BJ (l:=t) (by omega)
theorem BI{mt:Nat->Nat}:∀(l:List Oper),cq mt l<=l.length
 | []=>Nat.le_refl _
 | o::t=>by simp only[cq];split <;> simp;exact BI t
structure JK(ops:List Oper)(cx:List Nat)(x:Nat):Prop where
 op:∃ox,ops[x]? =some ox/\BT ox.op=true
 sel:∀o∈ops,∀cs b,o.op ≠ .select cs b
 free:∀ox j oj,ops[x]? =some ox->ops[j]? =some oj->j ≠ x->j ∉ cx->(∀e∈oj.after,Region.binds .any e=true->e.on ≠ x)->ox.apart ops.toArray oj=true
theorem ID{ops:List Oper}{cx:List Nat}{m x:Nat}{ci:List Nat}(h:B5 ops cx m x ci=true):x<m/\JK ops cx x/\ ∀ox,ops[x]? =some ox-> ∀e∈fh ox,e∈ci:=by
 unfold B5 at h;simp only[aR]at h;obtain⟨h1,h2⟩:=h;split at h2
 . rename_i ox hox;simp only[aR,aA]at h2;obtain⟨⟨⟨h2,h3⟩,h4⟩,h5⟩:=h2;refine⟨Nat.lt_of_succ_le (ai h1),⟨⟨ox,hox,h2⟩,fun o ho cs b e=>?_,fun ox' j oj ho hj hne hcx hno=>?_⟩,fun ox' ho e he=>?_⟩
   . have:=h4 o ho;rw[e]at this;cases this
   . rw[hox]at ho;cases ho;have:=h5 j (List.mem_range.2 (av.1 hj).1);have hb:Nat.beq j x=false:=by rw[<- Bool.not_eq_true];exact fun e=>hne (ba e)
     have hb2:bT j cx=false:=by rw[<- Bool.not_eq_true];exact fun e=>hcx (c9.1 e)
     rw[hb,hb2,hj]at this;simp only[aC,Bool.or_eq_true]at this;rcases this with h | h
     . rw[Array.any_eq_true']at h;obtain⟨e,he,hh⟩:=h;simp only[aR,beq_iff_eq]at hh;exact absurd hh.2 (hno e he hh.1)
     . exact h
   . rw[hox]at ho;cases ho;exact c9.1 (h3 e he)
 . cases h2
structure JM(ops:List Oper)(cl:Nat->List Nat)(m:Nat):Prop where
 edge:∀i o,ops[i]? =some o-> ∀e∈fh o,e<i/\e∈cl i/\ ∀x∈cl e,x∈cl i
 least:∀i o,ops[i]? =some o-> ∀x∈cl i,x<i/\ ∃e∈fh o,e=x\/x∈cl e
 tail:∀i o,ops[i]? =some o->m<=i-> ∀x,x<i->x∈cl i\/(x<m/\JK ops (cl x) x/\ ∀ox,ops[x]? =some ox-> ∀e∈fh ox,e∈cl i)
 look:∀i o,ops[i]? =some o->i<m-> ∀j oj d,ops[j]? =some oj->j<m->i ≠ j->oj.dst=some d->d∈looks ops o->(j<i->j∈cl i)/\(i<j->i∈cl j)
 dst:∀i o,ops[i]? =some o->i<m-> ∀j oj d,ops[j]? =some oj->j<m->i ≠ j->oj.dst=some d->o.dst ≠ some d
 read:∀i o,ops[i]? =some o->i<m-> ∀j oj,ops[j]? =some oj->j<i->lv o.op=true->kL oj.op=true->j∈cl i
theorem Nq{mt:Nat->Nat}{ops:List Oper}(h:bF mt ops=true):∃cl,JM ops cl (cq mt ops):=by
 refine⟨fun i=>((closure ops [])[i]?).getD [],?_,?_,?_,?_,?_,?_⟩
 all_goals
  intro i o ho;have hp:=vr h i o ho;rw[Nat.zero_add]at hp;simp only[Co,aR]at hp;obtain⟨⟨h1,h2⟩,h3⟩:=hp
 . intro e he;have:=aA.1 h1 e he;simp only[aR]at this;exact⟨Nat.lt_of_succ_le (ai this.1.1),c9.1 this.1.2,fun x hx=>c9.1 (aA.1 this.2 x hx)⟩
 . intro x hx;have:=aA.1 h2 x hx;simp only[aR,List.any_eq_true,Bool.or_eq_true]at this;obtain⟨a,e,he,hh⟩:=this;exact⟨Nat.lt_of_succ_le (ai a),e,he,hh.imp ba c9.1⟩
 . intro hm x hx;rw[show Nat.ble (cq mt ops) i=true from Nat.ble_eq_true_of_le hm]at h3;have h3x:=aA.1 h3 x (List.mem_range.2 hx);rw[Bool.or_eq_true]at h3x;exact h3x.imp c9.1 ID
 all_goals
  intro hm;have hble:Nat.ble (cq mt ops) i=false:=by rw[<- Bool.not_eq_true];intro e;have:=ai e;omega
  rw[hble]at h3
 . intro j oj d hj hjm hne hd hl;have:=aA.1 h3 j (List.mem_range.2 hjm);have hij:Nat.beq i j=false:=by rw[<- Bool.not_eq_true];exact fun e=>hne (ba e)
   simp only[hj,hij,hd,c9.2 hl,aR]at this;obtain⟨⟨t1,_⟩,_⟩:=this;refine⟨fun hlt=>?_,fun hlt=>?_⟩
   . rw[show Nat.blt j i=true from Nat.ble_eq_true_of_le hlt]at t1;exact c9.1 t1
   . have:Nat.blt j i=false:=by rw[<- Bool.not_eq_true];intro e;have:=ai e;omega
     rw[this]at t1;exact c9.1 t1
 . intro j oj d hj hjm hne hd hdd;have:=aA.1 h3 j (List.mem_range.2 hjm);have hij:Nat.beq i j=false:=by rw[<- Bool.not_eq_true];exact fun e=>hne (ba e)
   simp only[hj,hij,hd,hdd,aR]at this;simp at this
 . intro j oj hj hlt hr hmk;have:=aA.1 h3 j (List.mem_range.2 (by omega));have hij:Nat.beq i j=false:=by rw[<- Bool.not_eq_true];intro e;have:=ba e;omega
   simp only[hj,hij,aR,hr,hmk,aF,show Nat.blt j i=true from Nat.ble_eq_true_of_le hlt]at this;exact c9.1 this.2
theorem Sim.ext{cx:Cx}{E:Env}{st st' :St}{a:Act}{w:World}(h:Sim cx E st a w)(h1:∀t,st'.get t=st.get t)(h2:∀s,find st'.heap s=find st.heap s):Sim cx E st' a w:=by
 obtain⟨σ,hs⟩:=h;have hl:live st'.heap=live st.heap:=funext fun s=>by unfold live;rw[h2]
 refine⟨σ,hs.frame,hs.new,hs.apart,hs.defers,hs.nt,fun t=>?_,⟨fun s b hb=>?_,?_⟩,hs.glob,hs.globF,fun q0 B hB=>⟨(hs.fix q0 B hB).1,fun h=>(hs.fix q0 B hB).2 (by rw[hl]at h;exact h)⟩⟩
 . rw[hl,h1];exact hs.slots t
 . rw[hl];rw[h2]at hb;exact hs.holds.blk s b hb
 . rw[hl];exact hs.holds.inj
theorem gJ{f g:AV->Option D}(h:∀c,f c=g c)(l:List AV):cw f l=cw g l:=by
 rw[show f=g from funext h]
theorem Ek{st st' :St}(h:st.heap=st'.heap)(c:AV):iG st c=iG st' c:=by
 have hC:∀c,jq st c=jq st' c:=fun c=>by cases c <;> simp[jq,h]
 have hP:∀c,fg st c=fg st' c:=fun c=>by cases c <;> simp[fg,h,hC,gJ hC]
 have hG:∀c,mI st c=mI st' c:=fun c=>by cases c <;> simp[mI,hP,gJ hP]
 have hK:∀s off,lk st s off=lk st' s off:=fun s off=>by unfold lk;rw[h]
 have hB:∀c,jZ st c=jZ st' c:=fun c=>by
  cases c with
  | ptr s off=>simp only[jZ,hK,hG,hP]
  | _=>(simp only[jZ];exact hP _)
 have hF:∀c,j3 st c=j3 st' c:=fun c=>by cases c <;> simp[j3,hP,gJ hP,gJ hB]
 cases c <;> simp[iG,hF,gJ hF]
theorem CR{st st' :St}(h:st.heap=st'.heap)(c:AV):mG st c=mG st' c:=by
 have hC:∀c,mH st c=mH st' c:=fun c=>by cases c <;> simp[mH,h]
 cases c <;> simp[mG,hC,gJ hC]
theorem qc{cx:Cx}{st st' :St}:∀(xs:List Operand) (ts:List TypeId),(∀x∈xs,st.ev cx x=st'.ev cx x)->cy cx st xs ts=cy cx st' xs ts
 | [],ts,h=>rfl
 | x::xs,t::ts,h=>by simp only[cy];rw[h x (by simp),qc xs ts fun y hy=>h y (by simp[hy])]
 | x::xs,[],h=>by simp only[cy];rw[h x (by simp),qc xs [] fun y hy=>h y (by simp[hy])]
theorem vz{cx:Cx}{st st' :St}{size:Nat}:∀(l:List (Nat×Operand)) (i:Nat),(∀p∈l,st.ev cx p.2=st'.ev cx p.2)->oF st cx size i l=oF st' cx size i l
 | [],i,h=>rfl
 | (j,x)::t,i,h=>by
  simp only[oF];have hx:st.ev cx x=st'.ev cx x:=h (j,x) (by simp);rw[hx,vz t (i+1) fun y hy=>h y (by simp[hy])]
theorem vB{cx:Cx}{st st' :St}{size:Nat}:∀(l:List (Nat×Operand)) (i:Nat),(∀p∈l,st.ev cx p.2=st'.ev cx p.2)->oG st cx size i l=oG st' cx size i l
 | [],i,h=>rfl
 | (j,x)::t,i,h=>by
  simp only[oG];have hx:st.ev cx x=st'.ev cx x:=h (j,x) (by simp);rw[hx,vB t (i+1) fun y hy=>h y (by simp[hy])]
theorem zL{cx:Cx}{st st' :St}{d:Option Nat}{ty:TypeId}{op:Op}{k:KK}(h1:∀x∈op.operands.toList,st.ev cx x=st'.ev cx x)(h2:lv op=true->st.heap=st'.heap)(h3:∀t x,op= .load t x-> ∀s,jG (st.ev cx x)=some s->find st'.heap s=find st.heap s):opK cx d ty st op k=opK cx d ty st' op k:=by
 cases op <;> simp only[Op.operands]at h1 <;> simp only[opK]
 case move x=>rw[h1 x (by simp)]
 case assign x=>rw[h1 x (by simp)]
 case pick c a b=>rw[h1 c (by simp),h1 a (by simp),h1 b (by simp)]
 case box e x=>rw[h1 x (by simp)]
 case build t parts =>
  unfold nH;have:∀fs:List (Nat×TypeId),parts.toList.map (xJ cx st fs)=parts.toList.map (xJ cx st' fs):=fun fs=>by
   refine List.map_congr_left fun p hp=>?_
   have:=h1 p.2 (by simp;exact⟨p.1,by simpa using hp⟩);unfold xJ;rw[this]
  simp only[this]
 case buildSlice t n parts =>
  have:∀size,oF st cx size 0 parts.toList=oF st' cx size 0 parts.toList:=fun size=>vz _ _ fun p hp=>h1 p.2 (by simp;exact⟨p.1,by simpa using hp⟩)
  have this' :∀size,oG st cx size 0 parts.toList=oG st' cx size 0 parts.toList:=fun size=>vB _ _ fun p hp=>h1 p.2 (by simp;exact⟨p.1,by simpa using hp⟩)
  simp only[this,this']
 case load t x =>
  have h3:=h3 t x rfl;rw[h1 x (by simp)]at h3 ⊢;generalize st'.ev cx x=v at h3;unfold mr;cases v <;> first | rfl | (rename_i y;cases y <;> rfl) | (have h4:=h3 _ rfl;simp only[h4])
 case nilCheck x=>rw[h1 x (by simp)]
 case binOp op t x y ty=>rw[h1 x (by simp),h1 y (by simp)]
 case unOp op t x=>rw[h1 x (by simp)]
 case convert s t x=>rw[h1 x (by simp)]
 case makeFunc fn first caps =>
  have e1:first.toList.map (st.ev cx)=first.toList.map (st'.ev cx):=List.map_congr_left fun x hx=>h1 x (by simp;left;simpa using hx)
  have e2:caps.toList.map (st.ev cx)=caps.toList.map (st'.ev cx):=List.map_congr_left fun x hx=>h1 x (by simp;right;simpa using hx)
  rw[e1,e2]
 case makeSlice t l c=>rw[h1 l (by simp),h1 c (by simp)]
 case slice t x lo hi mx =>
  rw[h1 x (by simp)];have e1:lo.map (st.ev cx)=lo.map (st'.ev cx):=by cases lo with
   | none=>rfl
   | some y=>simp;exact h1 y (by simp)
  have e2:hi.map (st.ev cx)=hi.map (st'.ev cx):=by cases hi with
   | none=>rfl
   | some y=>simp;exact h1 y (by simp)
  rw[e1,e2]
 case fieldAddr s x f=>rw[h1 x (by simp)]
 case field t x f=>rw[h1 x (by simp)]
 case indexAddr t x i=>rw[h1 x (by simp),h1 i (by simp)];unfold dI;rw[h2 rfl]
 case index t x i=>rw[h1 x (by simp),h1 i (by simp)]
 case lookup t x i ok =>
  have hm:∀c,mapOf st c=mapOf st' c:=fun c=>by unfold mapOf;rw[h2 rfl]
  rw[h1 x (by simp),h1 i (by simp)];unfold ij;rw[hm,h2 rfl]
 case makeMap t r =>
  have e1:r.map (st.ev cx)=r.map (st'.ev cx):=by cases r with
   | none=>rfl
   | some y=>simp;exact h1 y (by simp)
  rw[e1]
 case extract x i=>rw[h1 x (by simp)]
 case call c =>
  have hh:=h2 rfl;obtain⟨cal,args,ts⟩:=c;cases cal with
  | value f =>
   have ef:st.ev cx f=st'.ev cx f:=h1 f (by simp[Call.operands]);have ea:cy cx st args.toList ts.toList=cy cx st' args.toList ts.toList:=qc _ _ fun x hx=>h1 x (by simp[Call.operands];right;simpa using hx)
   have ev:∀l,cw (iG st) l=cw (iG st') l:=gJ (Ek hh);have el:∀l v,xA st l v=xA st' l v:=fun l v=>by unfold xA xB;rw[gJ (CR hh),hh]
   have eb:∀g l,jd cx st g l k=jd cx st' g l k:=fun g l=>by unfold jd;rw[hh]
   simp only[uw,fnK,ef,ea,ev,eb,el]
  | invoke r m=>rfl
  | builtin b =>
   cases b <;> simp only[uw];have ea:∀x∈args.toList,st.ev cx x=st'.ev cx x:=fun x hx=>h1 x (by simp[Call.operands];simpa using hx)
   generalize args.toList=l at ea
   generalize ts.toList=tl
   match l,tl with
   | [x],[t] =>
    have ex:=ea x (by simp);simp only[ex];unfold kq;rw[hh]
   | [],_=>rfl
   | [_],[]=>rfl
   | [_],_::_::_=>rfl
   | _::_::_,_=>rfl
section
variable {cx:Cx} {st:St} {k:KK}
def k8(v:AV)(bs:List (Nat×Blk)):KK:=fun v' bs' =>v' =v/\bs' =bs
theorem di(v:AV)(bs:List (Nat×Blk)):k8 v bs v bs:=⟨rfl,rfl⟩
theorem dP{o:Option AV}(h:ia o k):∃v,k v []/\ia o (k8 v []):=by
 cases o with
 | none=>exact h.elim
 | some v=>exact⟨v,h,di _ _⟩
theorem II{t:TypeId}{x:AV}(h:mr cx st t x k):∃v,k v []/\mr cx st t x (k8 v []):=by
 unfold mr at h;split at h
 . split at h
   . rename_i hf;obtain⟨v,h1,h2⟩:=dP h;exact⟨v,h1,by simp only[mr,hf];exact h2⟩
   . exact h.elim
 . split at h
   . rename_i hf;split at h
     . rename_i hb;obtain⟨row,hr,h⟩:=h;obtain⟨v,h1,h2⟩:=dP h;exact⟨v,h1,by simp only[mr,hf,hb];exact⟨row,hr,h2⟩⟩
     . exact h.elim
   . rename_i hf;split at h
     . rename_i hb;obtain⟨row,hr,h⟩:=h;obtain⟨v,h1,h2⟩:=dP h;exact⟨v,h1,by simp only[mr,hf,hb];exact⟨row,hr,h2⟩⟩
     . exact h.elim
   . rename_i hf;split at h
     . rename_i hb;obtain⟨row,hr,h⟩:=h;obtain⟨v,h1,h2⟩:=dP h;exact⟨v,h1,by simp only[mr,hf,hb];exact⟨row,hr,h2⟩⟩
     . exact h.elim
   . exact h.elim
 . obtain⟨v,h1,h2⟩:=dP h;exact⟨v,h1,h2⟩
 . exact h.elim
theorem yz{t:TypeId}{x i:AV}(h:dI cx st t x i k):∃v,k v []/\dI cx st t x i (k8 v []):=by
 unfold dI at h;split at h
 . split at h
   . rename_i hse;split at h
     . split at h
       . rename_i hb;obtain⟨h0,row,hr,h⟩:=h;exact⟨_,h,by simp only[dI,hse,hb];exact⟨h0,row,hr,di _ _⟩⟩
       . exact h.elim
     . split at h
       . rename_i hf;split at h
         . rename_i hb;obtain⟨h0,h1,h⟩:=h;exact⟨_,h,by simp only[dI,hse,hf,hb];exact⟨h0,h1,di _ _⟩⟩
         . exact h.elim
       . rename_i hf;split at h
         . rename_i hb;obtain⟨h0,h1,h⟩:=h;exact⟨_,h,by simp only[dI,hse,hf,hb];exact⟨h0,h1,di _ _⟩⟩
         . exact h.elim
       . rename_i hf;split at h
         . rename_i hb;obtain⟨h0,h1,h⟩:=h;exact⟨_,h,by simp only[dI,hse,hf,hb];exact⟨h0,h1,di _ _⟩⟩
         . exact h.elim
       . exact h.elim
     . exact h.elim
   . rename_i hse;split at h
     . rename_i ha;obtain⟨h0,h1,h⟩:=h;obtain⟨v,h2,h3⟩:=dP h;exact⟨v,h2,by simp only[dI,hse,ha];exact⟨h0,h1,h3⟩⟩
     . exact h.elim
 . exact h.elim
theorem F3{t:TypeId}{x i:AV}(h:o8 cx t x i k):∃v,k v []/\o8 cx t x i (k8 v []):=by
 unfold o8 at h;split at h
 . rename_i hs;obtain⟨h0,c,hc,h⟩:=h;exact⟨_,h,by simp only[o8,hs];exact⟨h0,c,hc,di _ _⟩⟩
 . exact h.elim
theorem Ki{t:TypeId}{x:AV}{lo hi:Option AV}(h:sO cx t x lo hi k):∃v,k v []/\sO cx t x lo hi (k8 v []):=by
 unfold sO at h;split at h
 . split at h
   . rename_i e1 e2 e3;obtain⟨h0,h1,h2,h⟩:=h;exact⟨_,h,by simp only[sO,e1,e2,e3];exact⟨h0,h1,h2,di _ _⟩⟩
   . exact h.elim
 . split at h
   . rename_i e1 e2 e3;split at h
     . rename_i hb;obtain⟨h0,h1,h2,h⟩:=h;exact⟨_,h,by simp only[sO,e1,e2,e3,hb];exact⟨h0,h1,h2,di _ _⟩⟩
     . exact h.elim
   . exact h.elim
 . exact h.elim
theorem DM{t:TypeId}{x i:AV}{ok:Bool}(h:ij cx st t x i ok k):∃v,k v []/\ij cx st t x i ok (k8 v []):=by
 unfold ij at h;split at h
 . rename_i em;unfold pb at h;split at h
   . rename_i e0;split at h
     . rename_i e1 e2 e3;split at h
       . rename_i e4 e5;obtain⟨r,hr,h⟩:=h;cases r <;> cases ok <;> exact⟨_,h,by simp only[ij,em,pb,e0,e1,e2,e3,e4,e5];exact⟨_,hr,di _ _⟩⟩
       . exact h.elim
     . exact h.elim
   . rename_i e0;split at h
     . rename_i e1 e2;split at h
       . rename_i e4;obtain⟨r,hr,h⟩:=h;cases r <;> cases ok <;> exact⟨_,h,by simp only[ij,em,pb,e0,e1,e2,e4];exact⟨_,hr,di _ _⟩⟩
       . exact h.elim
     . exact h.elim
   . exact h.elim
 rename_i em;split at h
 . rename_i e0;split at h
   . rename_i e1 e2 e3;split at h
     . rename_i e4;split at h
       . rename_i e5;cases ok <;> exact⟨_,h,by simp only[ij,em,e0,e1,e2,e3,e4,e5];exact di _ _⟩
       . rename_i e5;cases ok <;> exact⟨_,h,by simp only[ij,em,e0,e1,e2,e3,e4,e5];exact di _ _⟩
     . exact h.elim
   . exact h.elim
 . exact h.elim
theorem K8{t:TypeId}{x:AV}(h:kq cx st t x k):∃v,k v []/\kq cx st t x (k8 v []):=by
 unfold kq at h;split at h
 . split at h
   . rename_i e;exact⟨_,h,by simp only[kq,e];exact di _ _⟩
   . exact h.elim
 . split at h
   . rename_i e;exact⟨_,h,by simp only[kq,e];exact di _ _⟩
   . exact h.elim
 . split at h
   . rename_i e;exact⟨_,h,by simp only[kq,e];exact di _ _⟩
   . exact h.elim
 . split at h
   . rename_i e1 e2;exact⟨_,h,by simp only[kq,e1,e2];exact di _ _⟩
   . rename_i e1 e2;exact⟨_,h,by simp only[kq,e1,e2];exact di _ _⟩
   . rename_i e1 e2;exact⟨_,h,by simp only[kq,e1,e2];exact di _ _⟩
   . exact h.elim
 . split at h
   . rename_i e1 e2;exact⟨_,h,by simp only[kq,e1,e2];exact di _ _⟩
   . rename_i e1 e2;exact⟨_,h,by simp only[kq,e1,e2];exact di _ _⟩
   . exact h.elim
 . split at h
   . rename_i e;exact⟨_,h,by simp only[kq,e];exact di _ _⟩
   . exact h.elim
 . exact h.elim
theorem Fv{t:TypeId}{parts:List (Nat×Operand)}(h:nH cx st t parts k):∃v,k v []/\nH cx st t parts (k8 v []):=by
 unfold nH at h;split at h
 . rename_i e0;split at h
   . rename_i e1;split at h
     . rename_i e2 e3;exact⟨_,h,by simp only[nH,e0,e1,e2,e3];exact di _ _⟩
     . exact h.elim
   . exact h.elim
 . exact h.elim
theorem yI{d:Option Nat}{t:TypeId}{l c:AV}{fl:Bool}(h:jf cx d t l c fl k):∃v bs,k v bs/\jf cx d t l c fl (k8 v bs):=by
 unfold jf at h;split at h
 . rename_i e0;split at h
   . rename_i e1;obtain⟨h0,h1,h2,h3,h4,h⟩:=h;split at h
     . rename_i e2;exact⟨_,_,h,by simp only[jf,e0,e1];exact⟨h0,h1,h2,h3,h4,by simp only[e2];exact di _ _⟩⟩
     . exact h.elim
   . exact h.elim
 . exact h.elim
theorem B7{g:FuncId}{args:List AV}(h:jd cx st g args k):∃v,k v []/\jd cx st g args (k8 v []):=by
 unfold jd at h;split at h
 . split at h
   . rename_i e1 e2;split at h
     . rename_i e3;obtain⟨v,hF,h⟩:=h;exact⟨v,h,by simp only[jd,e1,e2,e3];exact⟨v,hF,di _ _⟩⟩
     . exact h.elim
   . exact h.elim
 . exact h.elim
theorem MR{f:AV}{args:List AV}(h:fnK cx st f args k):∃v bs,k v bs/\fnK cx st f args (k8 v bs):=by
 unfold fnK at h;split at h
 . rename_i e0;split at h
   . rename_i e4;obtain⟨v,h1,h2⟩:=B7 h;exact⟨v,[],h1,by simp only[fnK,e0,e4];exact h2⟩
   rename_i e4;split at h
   . rename_i e1;obtain⟨v,bs,hF,h⟩:=h;split at h
     . rename_i el;exact⟨v,bs,h,by simp only[fnK,e0,e4,e1];exact⟨v,bs,hF,by simp only[el];exact di _ _⟩⟩
     . exact h.elim
   . rename_i e1;split at h
     . rename_i e2;obtain⟨v,hF,hfl,h⟩:=h;exact⟨v,[],h,by simp only[fnK,e0,e4,e1,e2];exact⟨v,hF,hfl,di _ _⟩⟩
     . exact h.elim
 . exact h.elim
theorem EV{d:Option Nat}{ty:TypeId}{op:Op}(h:opK cx d ty st op k):∃v bs,k v bs/\(kL op=false->rH op=false->bs=[])/\opK cx d ty st op (k8 v bs):=by
 cases op <;> simp only[opK]at h ⊢ <;> try (exact h.elim)
 case move x=>obtain⟨v,h1,h2⟩:=dP h;exact⟨v,[],h1,fun _ _=>rfl,h2⟩
 case assign x =>
  generalize Iw x=nb at h ⊢
  cases nb with
  | true=>exact⟨_,[],h,fun _ _=>rfl,di _ _⟩
  | false=>obtain⟨v,h1,h2⟩:=dP h;exact⟨v,[],h1,fun _ _=>rfl,h2⟩
 case pick c a b =>
  split at h
  . rename_i t e;cases t with
    | true=>obtain⟨v,h1,h2⟩:=dP h;exact⟨v,[],h1,fun _ _=>rfl,by(try simp only[e]);exact h2⟩
    | false=>obtain⟨v,h1,h2⟩:=dP h;exact⟨v,[],h1,fun _ _=>rfl,by(try simp only[e]);exact h2⟩
  . exact h.elim
 case alloc e =>
  split at h
  . rename_i e1 e2;exact⟨_,_,h,(fun hm hc=>by first | (cases hm;done) | (cases hc;done)),by(try simp only[e2]);exact di _ _⟩
  . exact h.elim
 case box e x =>
  split at h
  . rename_i e1 e2;split at h
    . rename_i e3;split at h
      . rename_i e4;exact⟨_,_,h,(fun hm hc=>by first | (cases hm;done) | (cases hc;done)),by(try simp only[e2,e3,e4]);exact di _ _⟩
      . exact h.elim
    . exact h.elim
  . exact h.elim
 case build t parts=>obtain⟨v,h1,h2⟩:=Fv h;exact⟨v,[],h1,fun _ _=>rfl,h2⟩
 case buildSlice t n parts =>
  split at h
  . rename_i e1 e2;split at h
    . rename_i e3;split at h
      . rename_i e4 e5 e6 e7;exact⟨_,_,h,(fun hm hc=>by first | (cases hm;done) | (cases hc;done)),by(try simp only[e2,e3,e4,e5,e6,e7]);exact di _ _⟩
      . rename_i e4 e5 e6 e7;exact⟨_,_,h,(fun hm hc=>by first | (cases hm;done) | (cases hc;done)),by(try simp only[e2,e3,e4,e5,e6,e7]);exact di _ _⟩
      . exact h.elim
    . rename_i e3;split at h
      . rename_i e3';split at h
        . rename_i e4 e5 e6;exact⟨_,_,h,(fun hm hc=>by first | (cases hm;done) | (cases hc;done)),by(try simp only[e2,e3,e3',e4,e5,e6]);exact di _ _⟩
        . exact h.elim
      . exact h.elim
  . exact h.elim
 case load t x=>obtain⟨v,h1,h2⟩:=II h;exact⟨v,[],h1,fun _ _=>rfl,h2⟩
 case nilCheck x =>
  split at h
  . rename_i e;exact⟨_,_,h,fun _ _=>rfl,by(try simp only[e]);exact di _ _⟩
  . rename_i e;exact⟨_,_,h,fun _ _=>rfl,by(try simp only[e]);exact di _ _⟩
  . rename_i e;exact⟨_,_,h,fun _ _=>rfl,by(try simp only[e]);exact di _ _⟩
  . rename_i e;exact⟨_,_,h,fun _ _=>rfl,by(try simp only[e]);exact di _ _⟩
  . rename_i e;exact⟨_,_,h,fun _ _=>rfl,by(try simp only[e]);exact di _ _⟩
  . exact h.elim
 case binOp =>
  split at h
  . rename_i e;exact⟨_,[],h.2,fun _ _=>rfl,by(try simp only[e]);exact⟨h.1,di _ _⟩⟩
  . rename_i e;obtain⟨v,h1,h2⟩:=dP h;exact⟨v,[],h1,fun _ _=>rfl,by(try simp only[e]);exact h2⟩
 case unOp=>obtain⟨v,h1,h2⟩:=dP h;exact⟨v,[],h1,fun _ _=>rfl,h2⟩
 case convert=>obtain⟨v,h1,h2⟩:=dP h;exact⟨v,[],h1,fun _ _=>rfl,h2⟩
 case makeFunc fn a b =>
  split at h
  . exact⟨_,_,h,fun _ _=>rfl,di _ _⟩
  . exact h.elim
 case makeMap t r =>
  split at h
  . rename_i e1 e2 e3;exact⟨_,_,h,(fun hm hc=>by first | (cases hm;done) | (cases hc;done)),by(try simp only[e2,e3]);exact di _ _⟩
  . rename_i e1 e2 e3;exact⟨_,_,h,(fun hm hc=>by first | (cases hm;done) | (cases hc;done)),by(try simp only[e2,e3]);exact di _ _⟩
  . exact h.elim
 case makeSlice t l c=>obtain⟨v,bs,h1,h2⟩:=yI h;exact⟨v,bs,h1,(fun hm hc=>by first | (cases hm;done) | (cases hc;done)),h2⟩
 case slice t x lo hi mx =>
  cases mx with
  | none=>obtain⟨v,h1,h2⟩:=Ki h;exact⟨v,[],h1,fun _ _=>rfl,h2⟩
  | some _=>exact h.elim
 case fieldAddr=>obtain⟨v,h1,h2⟩:=dP h;exact⟨v,[],h1,fun _ _=>rfl,h2⟩
 case field=>obtain⟨v,h1,h2⟩:=dP h;exact⟨v,[],h1,fun _ _=>rfl,h2⟩
 case indexAddr=>obtain⟨v,h1,h2⟩:=yz h;exact⟨v,[],h1,fun _ _=>rfl,h2⟩
 case index=>obtain⟨v,h1,h2⟩:=F3 h;exact⟨v,[],h1,fun _ _=>rfl,h2⟩
 case lookup=>obtain⟨v,h1,h2⟩:=DM h;exact⟨v,[],h1,fun _ _=>rfl,h2⟩
 case extract=>obtain⟨v,h1,h2⟩:=dP h;exact⟨v,[],h1,fun _ _=>rfl,h2⟩
 case call c =>
  obtain⟨cal,args,ts⟩:=c;cases cal with
  | value f=>obtain⟨v,bs,h1,h2⟩:=MR h;exact⟨v,bs,h1,(fun hm hc=>by first | (cases hm;done) | (cases hc;done)),h2⟩
  | invoke r m=>exact h.elim
  | builtin b =>
   cases b <;> simp only[uw]at h ⊢ <;> try (exact h.elim)
   split at h
   . rename_i e1 e2;obtain⟨v,h1,h2⟩:=K8 h;exact⟨v,[],h1,fun _ _=>rfl,by(try simp only[e1,e2]);exact h2⟩
   . exact h.elim
end
abbrev Ent:=Option Nat×AV×List (Nat×Blk)
def eM:List Ent->St->St
 | [],st=>st
 | e::t,st=>eM t (st.put e.1 e.2.1 e.2.2)
def gn(ops:List Oper)(S:St)(o:Oper)(b:Bool):Prop :=
 match o.guard with
 | none=>b=true
 | some (g,want)=> ∃og d,ops[g]? =some og/\og.dst=some d/\((S.get d= .d (.bool want)/\b=true)\/(S.get d= .d (.bool (!want))/\b=false)\/(S.get d= .tuple []/\b=false))
theorem qy{ops:List Oper}{S:St}{o:Oper}{yes no:Prop}(h:kY ops S o yes no):(gn ops S o true/\yes)\/(gn ops S o false/\no):=by
 unfold kY at h;unfold gn;split at h
 . rename_i hg;(try rw[hg]);exact .inl ⟨rfl,h⟩
 . rename_i g want hg
   (try rw[hg])
   split at h
   . rename_i og hog;split at h
     . rename_i d hd;split at h
       . rename_i b hb;cases want <;> cases b <;> simp only[ot]at h
         . exact .inl ⟨⟨og,d,hog,hd, .inl ⟨hb,rfl⟩⟩,h⟩
         . exact .inr ⟨⟨og,d,hog,hd, .inr (.inl ⟨hb,rfl⟩)⟩,h⟩
         . exact .inr ⟨⟨og,d,hog,hd, .inr (.inl ⟨hb,rfl⟩)⟩,h⟩
         . exact .inl ⟨⟨og,d,hog,hd, .inl ⟨hb,rfl⟩⟩,h⟩
       . rename_i hb;exact .inr ⟨⟨og,d,hog,hd, .inr (.inr ⟨hb,rfl⟩)⟩,h⟩
       . exact h.elim
     . exact h.elim
   . exact h.elim
theorem kX{cx:Cx}{E:Env}{ops:Array Oper}{S st:St}{o:Oper}{b:Bool}(h:gn ops.toList S o b)(hl:∀d∈looks ops.toList o,st.get d=S.get d){a:Act}{w:World}(hs:Sim cx E st a w):Region.wanted o (yielded ops a.tmps)=b:=by
 obtain⟨σ,hs⟩:=hs;unfold gn at h;unfold Region.wanted;cases hg:o.guard with
 | none=>rw[hg]at h;exact h.symm
 | some p =>
  obtain⟨g,want⟩:=p;rw[hg]at h;obtain⟨og,d,h1,h2,h3⟩:=h;have hmem:d∈looks ops.toList o:=by unfold looks;rw[hg];simp only[h1,h2];simp
  have hj:ops[g]? =some og:=by rw[<- bl];exact h1
  have hr:=hs.slots d;rw[hl d hmem]at hr;dsimp only;rcases h3 with ⟨e,rfl⟩ | ⟨e,rfl⟩ | ⟨e,rfl⟩
  . rw[e]at hr;rw[pq hj h2 hr.bool];simp
  . rw[e]at hr;rw[pq hj h2 hr.bool];cases want <;> rfl
  . rw[e]at hr;have hv:a.tmps.getD d Go.undef= .tuple #[]:=by
     generalize a.tmps.getD d Go.undef=u at hr
     cases hr with | tuple _ vs hl _=>rw[Array.eq_empty_of_size_eq_zero hl]
    rw[uk hj h2 hv];simp
def Good(cx:Cx)(nt:Nat)(ops:List Oper)(o:Oper)(S:St)(e:Ent):Prop :=
 dC nt o.dst=true/\e.1=o.dst/\(∀s,live e.2.2 s-> ¬live S.heap s)/\(kL o.op=false->e.2.2=[]) /\
 ((gn ops S o true/\ ∀R:St,(∀x∈o.op.operands.toList,S.ev cx x=R.ev cx x)->(lv o.op=true->S.heap=R.heap)->(∀t x,o.op= .load t x-> ∀s,jG (S.ev cx x)=some s->find R.heap s=find S.heap s)->cD cx o R e.2.1 e.2.2)\/(gn ops S o false/\e.2.1= .tuple []/\e.2.2=[]))
theorem Il{cx:Cx}{nt:Nat}(hT:bB cx){ops:List Oper}{o:Oper}{S:St}{K:St->Prop}(he:AI cx.chg o.op=false)
 (h:kY ops S o (gh cx nt true o S K) (match dC nt o.dst with | true=>K (S.put o.dst (.tuple []) []) | false=>False)):∃e,Good cx nt ops o S e/\K (S.put e.1 e.2.1 e.2.2):=by
 rcases qy h with ⟨hw,h⟩ | ⟨hw,h⟩
 . unfold gh at h;rw[he]at h;split at h
   . rename_i h1 h2;cases h2
   . rename_i hd _;have h' :∃v bs,(∀R:St,(∀x∈o.op.operands.toList,S.ev cx x=R.ev cx x)->(lv o.op=true->S.heap=R.heap)->(∀t x,o.op= .load t x-> ∀s,jG (S.ev cx x)=some s->find R.heap s=find S.heap s)->cD cx o R v bs)/\(kL o.op=false->rH o.op=false->bs=[])/\(match J7 true o.op bs,qI S.heap bs with | true,true=>K (S.put o.dst v bs) | _,_=>False):=by
      obtain⟨v,bs,hk,hm,hj⟩:=EV h;refine⟨v,bs,fun R hx hr hr3=>?_,hm,hk⟩;rw[zL hx hr hr3]at hj;obtain⟨v',bs',ho,rfl,rfl⟩:=tK hT hj;exact ho
     obtain⟨v,bs,h1,h2,h3⟩:=h';split at h3
     . rename_i hb hf;have hbs:kL o.op=false->bs=[]:=fun hmk=>by
        cases hc:rH o.op with
        | false=>exact h2 hmk hc
        | true =>
         cases bs with
         | nil=>rfl
         | cons x t=>simp[J7,hc]at hb
       exact⟨(o.dst,v,bs),⟨hd,rfl,pG hf,hbs, .inl ⟨hw,h1⟩⟩,h3⟩
     . exact h3.elim
   . exact h.elim
 . split at h
   . rename_i hd;exact⟨(o.dst, .tuple [],[]),⟨hd,rfl,fun s hl=>by simp[live,find]at hl,fun _=>rfl, .inr ⟨hw,rfl,rfl⟩⟩,h⟩
   . exact h.elim
theorem so(l m:List Ent)(st:St):eM (l++m) st=eM m (eM l st):=by
 induction l generalizing st with
 | nil=>rfl
 | cons e t ih=>exact ih _
def rb(cx:Cx)(nt:Nat)(ops:List Oper)(st0:St)(res:List Ent)(n:Nat):Prop :=
 ∀j,j<n-> ∃o e,ops[j]? =some o/\res[j]? =some e/\Good cx nt ops o (eM (res.take j) st0) e
theorem trace{cx:Cx}{nt:Nat}(hT:bB cx){ops:List Oper}{st0:St}{k:St->Prop}:∀(r i:Nat) (res:List Ent),i+r=cq cx.chg ops->res.length=i->rb cx nt ops st0 res i->oi cx nt true ops (ops.drop i) k (eM res st0) ->
 ∃res',res'.length=cq cx.chg ops/\rb cx nt ops st0 res' (cq cx.chg ops)/\oi cx nt true ops (ops.drop (cq cx.chg ops)) k (eM res' st0):=by
 intro r;induction r with
 | zero =>
  intro i res hi hl hg h;obtain rfl:i=cq cx.chg ops:=by omega
  exact⟨res,hl,hg,h⟩
 | succ r ih =>
  intro i res hi hl hg h;obtain⟨o,ho,he⟩:=BJ (mt:=cx.chg) (l:=ops) (i:=i) (by omega);have hlt:i<ops.length:=(av.1 ho).1;have hdrop:ops.drop i=o::ops.drop (i+1):=by
   rw[List.drop_eq_getElem_cons hlt]
   congr 1
   exact(av.1 ho).2
  rw[hdrop]at h;simp only[oi]at h;obtain⟨e,hgood,hk⟩:=Il hT he h;refine ih (i+1) (res++[e]) (by omega) (by simp[hl]) (fun j hj=>?_) (by rw[so];exact hk);by_cases hji:j<i
  . obtain⟨o',e',h1,h2,h3⟩:=hg j hji;refine⟨o',e',h1,by rw[bM (by omega)];exact h2,?_⟩;rw[List.take_append_of_le_length (by omega)];exact h3
  . obtain rfl:j=i:=by omega
    refine⟨o,e,ho,by rw[bQ (by omega),hl];simp,?_⟩;rw[List.take_append_of_le_length (by omega),List.take_of_length_le (by omega)];exact hgood
structure At(st0:St)(res:List Ent)(L:Nat->Bool)(st:St):Prop where
 slot:∀t,(∃j e,L j=true/\res[j]? =some e/\e.1=some t/\st.get t=e.2.1)\/((∀j e,L j=true->res[j]? =some e->e.1 ≠ some t)/\st.get t=st0.get t)
 heap:∀s,(∃j e b,L j=true/\res[j]? =some e/\find e.2.2 s=some b/\find st.heap s=some b)\/((∀j e,L j=true->res[j]? =some e-> ¬live e.2.2 s)/\find st.heap s=find st0.heap s)
theorem At.step{st0:St}{res:List Ent}{L L' :Nat->Bool}{st:St}(h:At st0 res L st){i:Nat}{e:Ent}(he:res[i]? =some e)(hL:∀j,L' j=true ↔ (L j=true\/j=i)):At st0 res L' (st.put e.1 e.2.1 e.2.2):=by
 refine⟨fun t=>?_,fun s=>?_⟩
 . rw[St.gK];by_cases ht:e.1=some t
   . rw[if_pos ht];exact .inl ⟨i,e,(hL i).2 (.inr rfl),he,ht,rfl⟩
   . rw[if_neg ht];rcases h.slot t with ⟨j,e',h1,h2,h3,h4⟩ | ⟨h1,h2⟩
     . exact .inl ⟨j,e',(hL j).2 (.inl h1),h2,h3,h4⟩
     . refine .inr ⟨fun j e' hj he' =>?_,h2⟩;rcases (hL j).1 hj with hj | rfl
       . exact h1 j e' hj he'
       . rw[he]at he';cases he';exact ht
 . show _\/(_/\find (e.2.2++st.heap) s=_)
   have hfind:find (st.put e.1 e.2.1 e.2.2).heap s=(find e.2.2 s).or (find st.heap s):=qg _ _ _;cases hb:find e.2.2 s with
   | some b=>exact .inl ⟨i,e,b,(hL i).2 (.inr rfl),he,hb,by rw[hfind,hb];rfl⟩
   | none =>
    rw[hb]at hfind;have hfind' :find (st.put e.1 e.2.1 e.2.2).heap s=find st.heap s:=by simpa using hfind
    rcases h.heap s with ⟨j,e',b,h1,h2,h3,h4⟩ | ⟨h1,h2⟩
    . exact .inl ⟨j,e',b,(hL j).2 (.inl h1),h2,h3,hfind'.trans h4⟩
    . refine .inr ⟨fun j e' hj he' =>?_,hfind'.trans h2⟩;rcases (hL j).1 hj with hj | rfl
      . exact h1 j e' hj he'
      . rw[he]at he';cases he';unfold live;rw[hb];simp
theorem A8{st0:St}{res:List Ent}:∀(i:Nat),i<=res.length->At st0 res (fun j=>decide (j<i)) (eM (res.take i) st0):=by
 intro i;induction i with
 | zero=>intro _;exact⟨fun t=> .inr ⟨fun j e hj=>by simp at hj,rfl⟩,fun s=> .inr ⟨fun j e hj=>by simp at hj,rfl⟩⟩
 | succ i ih =>
  intro hi;have hg:res[i]? =some res[i]:=ah (by omega);rw[List.take_succ_eq_append_getElem (by omega),so];exact(ih (by omega)).step hg (fun j=>by simp;omega)
theorem s6{f:Nat->AV}:∀{l:List Nat} {t:Nat},find (l.map fun x=>(x,f x)) t=if t∈l then some (f t)else none
 | [],t=>by simp[find]
 | x::l,t=>by
  rw[List.map_cons];by_cases h:x=t
  . subst h;rw[aX];simp
  . rw[bc _ _ h,s6];simp[show ¬t=x from fun e=>h e.symm]
section
variable {cx:Cx} {nt:Nat} {ops:List Oper} {st0:St} {res:List Ent} {cl:Nat->List Nat} {m:Nat}
theorem jS(hg:rb cx nt ops st0 res m)(hl:res.length=m){j:Nat}{e:Ent}{s:Nat}(hj:j<m)(he:res[j]? =some e)(hs:live e.2.2 s):(∀j' e',j' <j->res[j']? =some e' -> ¬live e'.2.2 s)/\ ¬live st0.heap s:=by
 obtain⟨o,e0,_,h2,_,_,h5,_⟩:=hg j hj;rw[he]at h2;cases h2;have hfree:=h5 s hs;have hat:=(A8 (st0:=st0) (res:=res) j (by omega)).heap s;rcases hat with ⟨j1,e1,b,_,_,_,h4⟩ | ⟨h1,h2⟩
 . exact absurd (aQ.2 ⟨b,h4⟩) hfree
 . refine⟨fun j' e' hlt he' =>h1 j' e' (by simpa using hlt) he',fun hl0=>hfree ?_⟩;unfold live at hl0 ⊢;rw[h2];exact hl0
theorem pR(hg:rb cx nt ops st0 res m)(hl:res.length=m){j j' :Nat}{e e' :Ent}{s:Nat}(he:res[j]? =some e)(he' :res[j']? =some e')(hs:live e.2.2 s)(hs' :live e'.2.2 s):j=j' :=by
 have hj:j<m:=by rw[<- hl];exact(av.1 he).1
 have hj' :j' <m:=by rw[<- hl];exact(av.1 he').1
 rcases Nat.lt_trichotomy j j' with h | h | h
 . exact absurd hs ((jS hg hl hj' he' hs').1 j e h he)
 . exact h
 . exact absurd hs' ((jS hg hl hj he hs).1 j' e' h he')
theorem sS(hg:rb cx nt ops st0 res m){j:Nat}{e:Ent}(hj:j<m)(he:res[j]? =some e):∃o,ops[j]? =some o/\e.1=o.dst/\(kL o.op=false->e.2.2=[]):=by
 obtain⟨o,e0,h1,h2,_,h4,_,h6,_⟩:=hg j hj;rw[he]at h2;cases h2;exact⟨o,h1,h4,h6⟩
theorem CB(hp:JM ops cl m)(hg:rb cx nt ops st0 res m)(hl:res.length=m){j j' :Nat}{e e' :Ent}{t:Nat}(he:res[j]? =some e)(he' :res[j']? =some e')(hs:e.1=some t)(hs' :e'.1=some t):j=j' :=by
 have hj:j<m:=by rw[<- hl];exact(av.1 he).1
 have hj' :j' <m:=by rw[<- hl];exact(av.1 he').1
 obtain⟨o,h1,h2,_⟩:=sS hg hj he;obtain⟨o',h1',h2',_⟩:=sS hg hj' he';rcases Nat.decEq j j' with hne | h
 . exact absurd (h2 ▸ hs) (hp.dst j o h1 hj j' o' t h1' hj' hne (h2' ▸ hs'))
 . exact h
theorem agree(hp:JM ops cl m)(hg:rb cx nt ops st0 res m)(hl:res.length=m){L:Nat->Bool}{st:St}(hat:At st0 res L st)(hdown:∀j,L j=true-> ∀x∈cl j,L x=true){i:Nat}{o:Oper}(hi:i<m)(ho:ops[i]? =some o)(hiL:L i=false)
 (hcl:∀x∈cl i,L x=true) :
 (∀d∈looks ops o,st.get d=(eM (res.take i) st0).get d)/\(lv o.op=true-> ∀s b,find (eM (res.take i) st0).heap s=some b->find st.heap s=some b)/\(∀s b,live st.heap s->find (eM (res.take i) st0).heap s=some b->find st.heap s=some b):=by
 have hseq:=A8 (st0:=st0) (res:=res) i (by omega);have lt_m:∀{j:Nat} {e:Ent},res[j]? =some e->j<m:=fun h=>by rw[<- hl];exact(av.1 h).1
 refine⟨fun d hd=>?_,fun hr s b hs=>?_,fun s b hlv hs=>?_⟩
 . rcases hat.slot d with ⟨j,e,h1,h2,h3,h4⟩ | ⟨h1,h2⟩
   . have hj:=lt_m h2;obtain⟨oj,ho1,ho2,_⟩:=sS hg hj h2;have hne:i ≠ j:=fun e=>by subst e;rw[hiL]at h1;cases h1
     have hlook:=hp.look i o ho hi j oj d ho1 hj hne (ho2 ▸ h3) hd;have hji:j<i:=by
      rcases Nat.lt_trichotomy i j with h | h | h
      . have:=hdown j h1 i (hlook.2 h);rw[hiL]at this;cases this
      . exact absurd h hne
      . exact h
     rcases hseq.slot d with ⟨j',e',q1,q2,q3,q4⟩ | ⟨q1,_⟩
     . obtain rfl:=CB hp hg hl h2 q2 h3 q3;rw[h2]at q2;cases q2;rw[h4,q4]
     . exact absurd h3 (q1 j e (by simpa using hji) h2)
   . rcases hseq.slot d with ⟨j',e',q1,q2,q3,q4⟩ | ⟨_,q2⟩
     . have hj' :=lt_m q2;obtain⟨oj,ho1,ho2,_⟩:=sS hg hj' q2;have hlt:j' <i:=by simpa using q1
       have:=hcl j' ((hp.look i o ho hi j' oj d ho1 hj' (by omega) (ho2 ▸ q3) hd).1 hlt);exact absurd q3 (h1 j' e' this q2)
     . rw[h2,q2]
 . rcases hseq.heap s with ⟨j,e,b',h1,h2,h3,h4⟩ | ⟨h1,h2⟩
   . rw[h4]at hs;cases hs;have hj:=lt_m h2;have hlt:j<i:=by simpa using h1
     obtain⟨oj,ho1,_,ho3⟩:=sS hg hj h2;have hmk:kL oj.op=true:=by
      cases hm:kL oj.op with
      | true=>rfl
      | false=>rw[ho3 hm]at h3;cases h3
     have hLj:=hcl j (hp.read i o ho hi j oj ho1 hlt hr hmk);rcases hat.heap s with ⟨j',e',b'',q1,q2,q3,q4⟩ | ⟨q1,_⟩
     . obtain rfl:=pR hg hl h2 q2 (aQ.2 ⟨b,h3⟩) (aQ.2 ⟨b'',q3⟩);rw[h2]at q2;cases q2;rw[h3]at q3;cases q3;exact q4
     . exact absurd (aQ.2 ⟨b,h3⟩) (q1 j e hLj h2)
   . rw[h2]at hs;rcases hat.heap s with ⟨j',e',b'',q1,q2,q3,_⟩ | ⟨_,q2⟩
     . exact absurd (aQ.2 ⟨b,hs⟩) (jS hg hl (lt_m q2) q2 (aQ.2 ⟨b'',q3⟩)).2
     . rw[q2];exact hs
 . rcases hseq.heap s with ⟨j,e,b',h1,h2,h3,h4⟩ | ⟨h1,h2⟩
   . rw[h4]at hs;cases hs;rcases hat.heap s with ⟨j',e',b'',q1,q2,q3,q4⟩ | ⟨q1,q2⟩
     . obtain rfl:=pR hg hl h2 q2 (aQ.2 ⟨b,h3⟩) (aQ.2 ⟨b'',q3⟩);rw[h2]at q2;cases q2;rw[h3]at q3;cases q3;exact q4
     . refine absurd ?_ (jS hg hl (lt_m h2) h2 (aQ.2 ⟨b,h3⟩)).2;unfold live at hlv ⊢;rw[<- q2];exact hlv
   . rw[h2]at hs;rcases hat.heap s with ⟨j',e',b'',q1,q2,q3,_⟩ | ⟨_,q2⟩
     . exact absurd (aQ.2 ⟨b,hs⟩) (jS hg hl (lt_m q2) q2 (aQ.2 ⟨b'',q3⟩)).2
     . rw[q2];exact hs
end
def rQ(cx:Cx)(S:St)(o:Oper):List (Nat×Blk) :=
 match o.op with
 | .load _ x=>(match jG (S.ev cx x)with | some s=>(match find S.heap s with | some b=>[(s,b)] | none=>[]) | none=>[])
 | op=>if lv op then S.heap else[]
theorem Gu{cx:Cx}{S:St}{o:Oper}(h:lv o.op=true):rQ cx S o=S.heap:=by
 unfold rQ;split
 . rename_i e;rw[e]at h;cases h
 . rename_i op _;exact if_pos h
theorem Gt{cx:Cx}{S:St}{o:Oper}{t:TypeId}{x:Operand}(h:o.op= .load t x){s:Nat}(hs:jG (S.ev cx x)=some s):find (rQ cx S o) s=find S.heap s:=by
 unfold rQ;rw[h];simp only[hs];split
 . rename_i b hb;rw[aX,hb]
 . rename_i hb;rw[hb];rfl
theorem Gs{cx:Cx}{S:St}{o:Oper}{s:Nat}{b:Blk}(h:find (rQ cx S o) s=some b):find S.heap s=some b/\(lv o.op=true\/ ∃t x,o.op= .load t x/\jG (S.ev cx x)=some s):=by
 unfold rQ at h;split at h
 . rename_i t x e;split at h
   . rename_i s' hs;split at h
     . rename_i b' hb;by_cases e' :s' =s
       . subst e';rw[aX]at h;cases h;exact⟨hb, .inr ⟨t,x,e,hs⟩⟩
       . rw[bc _ _ e']at h;cases h
     . cases h
   . cases h
 . split at h
   . rename_i hr;exact⟨h, .inl hr⟩
   . cases h
theorem Jh{cx:Cx}{E:Env}{S st:St}{a:Act}{w:World}(hs:Sim cx E st a w){x:Operand}{s:Nat}(h:jG (S.ev cx x)=some s)(hx:∀t,x= .tmp t->st.get t=S.get t):live st.heap s:=by
 obtain⟨σ,hs⟩:=hs;cases x with
 | tmp t =>
  have hr:=hs.slots t;rw[hx t rfl]at hr;have h' :jG (S.get t)=some s:=h;generalize S.get t=v at hr h';generalize a.tmps.getD t Go.undef=u at hr;cases hr <;> first | (cases h';assumption) | cases h'
 | const v =>
  exfalso
  have h' :jG (ofConst v)=some s:=h;unfold ofConst at h';split at h'
  . cases h'
  . unfold pf at h';split at h' <;> cases h'
 | global g =>
  exfalso
  have h' :jG (match cx.gl g with | some cells=>AV.d (.ptr cells) | none=> .undef)=some s:=h;split at h' <;> cases h'
 | func f=>cases h
theorem Bl{p p' :Nat->Bool}(h:∀j,p' j=true->p j=true){i:Nat}(h1:p i=true)(h2:p' i=false):∀{l:List Nat},i∈l->(l.filter p').length<(l.filter p).length:=by
 have hle:∀l:List Nat,(l.filter p').length<=(l.filter p).length:=by
  intro l;induction l with
  | nil=>simp
  | cons x t ih =>
   simp only[List.filter_cons];cases hx:p' x with
   | true=>rw[h x hx];simp;exact ih
   | false=>cases p x <;> simp <;> omega
 intro l;induction l with
 | nil=>intro hm;cases hm
 | cons x t ih =>
  intro hm;simp only[List.filter_cons];rcases List.mem_cons.1 hm with rfl | hm
  . rw[h1,h2];simp;have:=hle t;omega
  . have:=ih hm;cases hx:p' x with
    | true=>rw[h x hx];simp;exact this
    | false=>cases p x <;> simp <;> omega
theorem iB{ops:Array Oper}{listed:Array Bool}(hsz:listed.size=ops.size){i:Nat}:i∈Region.ready .any ops listed ↔ ∃o,ops.toList[i]? =some o/\listed.getD i false=false/\ ∀e∈fh o,listed.getD e false=true:=by
 unfold Region.ready;simp only[List.mem_filter,List.mem_range,aR];constructor
 . rintro⟨hi,h1,h2⟩;have ho:ops[i]? =some ops[i]:=Array.getElem?_eq_getElem hi;refine⟨ops[i],by rw[bl];exact ho,?_,fun e he=>?_⟩
   . have hi' :i<listed.size:=by omega
     simp[hi']at h1 ⊢;exact h1
   . rw[ho]at h2;simp only[Option.map_some,Option.getD_some,Array.all_eq_true_iff_forall_mem]at h2;obtain⟨x,hx,rfl⟩:=List.mem_map.1 he;obtain⟨hx1,hx2⟩:=List.mem_filter.1 hx;have:=h2 x (by simpa using hx1);simpa [hx2] using this
 . rintro⟨o,ho,h1,h2⟩;have hi:i<ops.size:=by have:=(av.1 ho).1;simpa using this
   have hi' :i<listed.size:=by omega
   refine⟨hi,by simp[hi']at h1 ⊢;exact h1,?_⟩;rw[bl]at ho;rw[ho];simp only[Option.map_some,Option.getD_some,Array.all_eq_true_iff_forall_mem];intro x hx;cases hb:Region.binds .any x with
   | false=>simp
   | true =>
    have:=h2 x.on (List.mem_map.2 ⟨x,List.mem_filter.2 ⟨by simpa using hx,hb⟩,rfl⟩);simpa using this
def oC(Q:Exit->Act->World->Prop):Exit->Act->World->Prop
 | .normal,a,w=>Q .normal a w
 | _,_,_=>False
theorem DF{P:Program}{o:Oper}(hl:BT o.op=true){a:Act}{w:World}{K:Act->World->Prop}(h:o.wp P a w K fun _ _ _=>False):∃z,(∀w',(execOp a.eval o).run P w' = .ok (.value z) w')/\K (a.put o.dst z) w:=by
 cases ho:o.op <;> rw[ho]at hl <;> try (cases hl;done)
 case extract x i =>
  unfold Oper.wp at h;have hex:∀w',(execOp a.eval o).run P w' =(do let v <- Instr.extract (a.eval x) i;pure (.value v):Sem Next).run P w' :=fun w' =>by simp only[execOp,ho]
  rw[hex]at h;unfold Instr.extract at h hex;split at h
  . rename_i vs;split at h
    . rename_i v hv;refine⟨v,fun w' =>?_,?_⟩
      . rw[hex w'];simp_all
      . simpa [Oper.upon] using h
    . simp[Oper.upon,Sem.run,stuck]at h
  . simp[Oper.upon,Sem.run,stuck]at h
 case move x =>
  unfold Oper.wp at h;simp only[execOp,ho]at h ⊢;exact⟨a.eval x,fun w' =>rfl,by simpa [Oper.upon] using h⟩
theorem sR{cx:Cx}{nt:Nat}(hT:bB cx){ops:Array Oper}{E:Env}(hn:E.nt=nt){Q:Exit->Act->World->Prop}{k:St->Prop}{st:St}{a:Act}{w:World}(h:FK cx nt ops.toList k st)(hs:Sim cx E st a w)
 (hQ:∀st' a' w',k st' ->Sim cx E st' a' w' ->Q .normal a' w'):wpAny cx.P .any ops (oC Q) ops.size (Array.replicate ops.size false) a {w with drawn:=w.drawn+1}:=by
 replace hQ:∀st' a' w',k st' ->Sim cx E st' a' w' ->oC Q .normal a' w' :=hQ;have hQp:∀c a w,¬oC Q (.panic c) a w:=fun c a w h=>h
 generalize oC Q=Q at hQ hQp ⊢
 obtain⟨hplan,hseq⟩:=h;obtain⟨cl,hp⟩:=Nq hplan;obtain⟨res,hl,hg,htail⟩:=trace (cx:=cx) (nt:=nt) (ops:=ops.toList) (st0:=st) (k:=k) hT (cq cx.chg ops.toList) 0 [] (by omega) rfl (fun j hj=>by omega) (by simpa [eM] using hseq);have hmn:cq cx.chg ops.toList<=ops.size:=by simpa using BI (mt:=cx.chg) ops.toList
 have hs0:Sim cx E st a {w with drawn:=w.drawn+1}:=by
  obtain⟨σ,hs⟩:=hs;have hk:aZ w {w with drawn:=w.drawn+1} (Own E.O (live st.heap) σ) (Own E.O (live st.heap) σ):=⟨Nat.le_refl _,fun _ _ _=>rfl,fun _ h _=>h⟩
  have hss:∀s,live st.heap s->live st.heap s/\σ s=σ s:=fun s h=>⟨h,rfl⟩
  exact⟨σ,⟨hs.frame.os,hs.frame.tape,hs.frame.output,hs.frame.size,hs.frame.block⟩,hs.new,hs.apart,hs.defers,hs.nt,fun t=>(hs.slots t).mono hk hss,
   ⟨fun s b hb=>cA.mono hk hss (aQ.2 ⟨b,hb⟩) (fun _ _=>rfl) (hs.holds.blk s b hb),hs.holds.inj⟩,hs.glob,hs.globF,hs.fix⟩
 have getSet:∀(listed:Array Bool) (i j:Nat),i<listed.size->(listed.setIfInBounds i true).getD j false=if j=i then true else listed.getD j false:=by
  intro listed i j hi;simp only[bw];by_cases e:j=i
  . subst e;simp[hi]
  . rw[if_neg e,Array.getElem?_setIfInBounds_ne (fun h=>e h.symm)]
 let Ph1 (listed:Array Bool) (a:Act) (w:World):Prop:= ∃s,(∀j,cq cx.chg ops.toList<=j->listed.getD j false=false)/\At st res (fun j=>listed.getD j false) s/\Sim cx E s a w
 let Ph2 (listed:Array Bool) (a:Act) (w:World):Prop:= ∃q s,cq cx.chg ops.toList<=q/\q<=ops.size/\(∀j,listed.getD j false=decide (j<q))/\oi cx nt true ops.toList (ops.toList.drop q) k s/\Sim cx E s a w
 have norm:∀(listed:Array Bool) (a:Act) (w:World),Ph1 listed a w->(∀j,j<cq cx.chg ops.toList->listed.getD j false=true)->Ph2 listed a w:=by
  rintro listed a w ⟨s,h1,hat,hs⟩ hall;refine⟨cq cx.chg ops.toList,eM res st,Nat.le_refl _,hmn,fun j=>?_,htail,?_⟩
  . by_cases hj:j<cq cx.chg ops.toList
    . rw[hall j hj];simp[hj]
    . rw[h1 j (by omega)];simp[hj]
  . have hseq:=A8 (st0:=st) (res:=res) (cq cx.chg ops.toList) (by omega);rw[List.take_of_length_le (by omega)]at hseq;have lt_m:∀{j:Nat} {e:Ent},res[j]? =some e->j<cq cx.chg ops.toList:=fun h=>by rw[<- hl];exact(av.1 h).1
    refine hs.ext (fun t=>?_) (fun x=>?_)
    . rcases hat.slot t with ⟨j,e,q1,q2,q3,q4⟩ | ⟨q1,q2⟩ <;> rcases hseq.slot t with ⟨j',e',r1,r2,r3,r4⟩ | ⟨r1,r2⟩
      . obtain rfl:=CB hp hg hl q2 r2 q3 r3;rw[q2]at r2;cases r2;rw[q4,r4]
      . exact absurd q3 (r1 j e (by simpa using lt_m q2) q2)
      . exact absurd r3 (q1 j' e' (hall j' (lt_m r2)) r2)
      . rw[q2,r2]
    . rcases hat.heap x with ⟨j,e,b,q1,q2,q3,q4⟩ | ⟨q1,q2⟩ <;> rcases hseq.heap x with ⟨j',e',b',r1,r2,r3,r4⟩ | ⟨r1,r2⟩
      . obtain rfl:=pR hg hl q2 r2 (aQ.2 ⟨b,q3⟩) (aQ.2 ⟨b',r3⟩);rw[q2]at r2;cases r2;rw[q3]at r3;cases r3;rw[q4,r4]
      . exact absurd (aQ.2 ⟨b,q3⟩) (r1 j e (by simpa using lt_m q2) q2)
      . exact absurd (aQ.2 ⟨b',r3⟩) (q1 j' e' (hall j' (lt_m r2)) r2)
      . rw[q2,r2]
 have done:∀(listed:Array Bool) (a:Act) (w:World),(Ph1 listed a w\/Ph2 listed a w)->(∀j,j<ops.size->listed.getD j false=true)->Q .normal a w:=by
  intro listed a w hph hall;have h2:Ph2 listed a w:=hph.elim (fun h=>norm listed a w h fun j hj=>hall j (by omega)) (fun h=>h);obtain⟨q,s,h1,h2,h3,h4,h5⟩:=h2;have hq:q=ops.size:=by
   rcases Nat.lt_or_ge q ops.size with hlt | hge
   . have:=hall q hlt;rw[h3 q]at this;simp at this
   . omega
  rw[List.drop_of_length_le (by simp;omega)]at h4;exact hQ s a w h4 h5
 have prog:∀(listed:Array Bool),listed.size=ops.size->Region.ready .any ops listed=[]-> ∀j,j<ops.size->listed.getD j false=true:=by
  intro listed hsz hr j;induction j using Nat.strongRecOn with
  | _ j ih =>
   intro hj;cases hlj:listed.getD j false with
   | true=>rfl
   | false =>
    have ho:ops.toList[j]? =some ops[j]:=by rw[bl];exact Array.getElem?_eq_getElem hj
    have:j∈Region.ready .any ops listed:=(iB hsz).2 ⟨ops[j],ho,hlj,fun e he=>by
     have:=(hp.edge j _ ho e he).1;exact ih e this (by omega)⟩
    rw[hr]at this;cases this
 have stepF : ∀ (listed : Array Bool) (s : St) (a : Act) (w : World) (i : Nat) (o : Oper), At st res (fun j => listed.getD j false) s -> Sim cx E s a w -> (∀ j, listed.getD j false = true -> ∀ x ∈ cl j, listed.getD x false = true) -> i < cq cx.chg ops.toList -> ops.toList[i]? = some o ->
     listed.getD i false=false->(∀x∈cl i,listed.getD x false=true)-> ∃e,res[i]? =some e/\e.1=o.dst/\((Region.wanted o (yielded ops a.tmps)=true/\ ∀Q0,o.wp cx.P a w (fun a' w' =>Sim cx E (s.put e.1 e.2.1 e.2.2) a' w') Q0) \/
      (Region.wanted o (yielded ops a.tmps)=false/\Sim cx E (s.put e.1 e.2.1 e.2.2) (a.put o.dst Go.undef) w)):=by
  intro listed s a w i o hat hsim hdown him ho hiL hcl;obtain⟨o2,e,g1,g2,hd,gd,gf,gm,gor⟩:=hg i him;rw[ho]at g1;cases g1;obtain⟨ag1,ag2,ag3⟩:=agree hp hg hl hat hdown him ho hiL hcl;have hdst:∀x,o.dst=some x->x<E.nt:=by rw[hn];exact c8 hd
  refine⟨e,g2,gd,?_⟩;rcases gor with ⟨gw,gok⟩ | ⟨gw,gv,gb⟩
  . refine .inl ⟨kX gw ag1 hsim,fun Q0=>?_⟩
    let R:St:=⟨(looks ops.toList o).map fun t=>(t,(eM (res.take i) st).get t),rQ cx (eM (res.take i) st) o⟩
    have hRget:∀t,R.get t=if t∈looks ops.toList o then(eM (res.take i) st).get t else .undef:=fun t=>by
     show(match find ((looks ops.toList o).map fun t=>(t,(eM (res.take i) st).get t)) t with | some v=>v | none=> .undef)=_
     rw[s6];split <;> simp_all
    have hok:=gok R (fun x hx=>by
     cases x with
     | tmp t =>
      show(eM (res.take i) st).get t=R.get t
      rw[hRget,if_pos];unfold looks;exact List.mem_append.2 (.inl (List.mem_filterMap.2 ⟨.tmp t,hx,rfl⟩))
     | const v=>rfl
     | global g=>rfl
     | func f=>rfl) (fun hr=>(Gu hr).symm) (fun t x he z hz=>Gt he hz)
    have hle:R.le s:=⟨fun t=>by
     rw[hRget];split
     . rename_i ht;exact .inr (ag1 t ht)
     . exact .inl rfl,fun x b hb=>by
     obtain⟨hb1,hb2⟩:=Gs (o:=o) hb;rcases hb2 with hr | ⟨t,y,he,hz⟩
     . exact ag2 hr x b hb1
     . refine ag3 x b (Jh hsim hz fun t' ht' =>ag1 t' ?_) hb1;subst ht';unfold looks;exact List.mem_append.2 (.inl (List.mem_filterMap.2 ⟨.tmp t',by rw[he];simp[Op.operands],rfl⟩))⟩
    have hfr:∀x,live e.2.2 x-> ¬live s.heap x:=fun x hx hlx=>by
     obtain⟨hsf,hs0f⟩:=jS hg hl him g2 hx;rcases hat.heap x with ⟨j,e',b,r1,r2,r3,_⟩ | ⟨_,r2⟩
     . have:=pR hg hl g2 r2 hx (aQ.2 ⟨b,r3⟩);subst this;rw[hiL]at r1;cases r1
     . unfold live at hlx hs0f;rw[r2]at hlx;exact hs0f hlx
    have:=hok.1 E s a w Q0 hle hdst hfr hsim;rw[<- gd]at this;exact this
  . refine .inr ⟨kX gw ag1 hsim,?_⟩;have hsk:=jo (d:=o.dst) hdst hsim;rw[gd,gv,gb];exact hsk
 have key : ∀ (fuel : Nat) (listed : Array Bool) (a : Act) (w : World), listed.size = ops.size -> ((List.range ops.size).filter fun j => !listed.getD j false).length <= fuel -> (∀ j, listed.getD j false = true -> ∀ x ∈ cl j, listed.getD x false = true) ->
     (Ph1 listed a w\/Ph2 listed a w)->wpAny cx.P .any ops Q fuel listed a w:=by
  intro fuel;induction fuel with
  | zero =>
   intro listed a w hsz hcnt hdown hph;have hall:∀j,j<ops.size->listed.getD j false=true:=fun j hj=>by
    cases h:listed.getD j false with
    | true=>rfl
    | false =>
     have:j∈(List.range ops.size).filter fun j=> !listed.getD j false:=List.mem_filter.2 ⟨List.mem_range.2 hj,by simp[h]⟩
     have:=List.length_pos_of_mem this;omega
   refine⟨?_,done listed a w hph hall⟩;rw[List.eq_nil_iff_forall_not_mem];intro i hi;obtain⟨o,ho,h1,_⟩:=(iB hsz).1 hi;have:i<ops.size:=by have:=(av.1 ho).1;simpa using this
   rw[hall i this]at h1;cases h1
  | succ fuel ih =>
   intro listed a w hsz hcnt hdown hph;by_cases hlate:Ph1 listed a w/\ ∃x ox,x<cq cx.chg ops.toList/\JK ops.toList (cl x) x/\ops.toList[x]? =some ox/\listed.getD x false=false/\ ∀e∈fh ox,listed.getD e false=true
   . obtain⟨⟨s,h1,hat,hsim⟩,x,ox,hxm,hL,hox,hxL,hxe⟩:=hlate;have hclx:∀y∈cl x,listed.getD y false=true:=fun y hy=>by
      obtain⟨_,e,he,hh⟩:=hp.least x ox hox y hy;rcases hh with rfl | hh
      . exact hxe e he
      . exact hdown e (hxe e he) y hh
     have hxin:x<ops.size:=by omega
     have hset:∀j,(listed.setIfInBounds x true).getD j false=if j=x then true else listed.getD j false:=fun j=>getSet listed x j (by omega)
     obtain⟨e,g2,gd,gor⟩:=stepF listed s a w x ox hat hsim hdown hxm hox hxL hclx;obtain⟨ox',hox',hlt⟩:=hL.op;rw[hox]at hox';cases hox';have hox2:ops[x]? =some ox:=by rw[<- bl];exact hox
     obtain⟨v,hy,hsv⟩:∃v,Yields cx.P ops ox v a/\Sim cx E (s.put e.1 e.2.1 e.2.2) (a.put ox.dst v) w:=by
      rcases gor with ⟨gw,gok⟩ | ⟨gw,gs⟩
      . obtain⟨z,hz1,hz2⟩:=DF hlt (gok fun _ _ _=>False);exact⟨z, .inl ⟨gw,hz1⟩,hz2⟩
      . exact⟨_, .inr ⟨gw,rfl⟩,gs⟩
     refine wpAny_first (v:=v) hox2 (fun j o cs b ho=>hL.sel o (Array.mem_toList_iff.2 (Array.mem_of_getElem? ho)) cs b) (fun c a w hh=>absurd hh (hQp c _ w)) fuel listed a w
      (fun j oj hj hne hun hno=>by
       have hjc:j ∉ cl x:=fun hm=>by
        have h1:=hclx j hm;simp only[bw]at h1 hun;cases hh:listed[j]? with
        | none=>rw[hh]at h1;cases h1
        | some b=>rw[hh]at h1 hun;simp at h1 hun;rw[h1]at hun;cases hun
       have:=hL.free ox j oj hox (by rw[bl];exact hj) hne hjc hno;simpa using this) ((iB hsz).2 ⟨ox,hox,hxL,hxe⟩) hy ?_
     refine ih _ _ _ (by simp [hsz]) ?_ ?_ (.inl ⟨_, fun j hj => by rw [hset, if_neg (by omega)]; exact h1 j hj, hat.step g2 (fun j => by
         show(listed.setIfInBounds x true).getD j false=true ↔ _
         rw[hset];split
         . simp_all
         . simp_all),hsv⟩)
     . have:=Bl (p:=fun j=> !listed.getD j false) (p' :=fun j=> !(listed.setIfInBounds x true).getD j false) (fun j hj=>by
        rw[hset]at hj;split at hj
        . simp at hj
        . exact hj) (i:=x) (by simp only[hxL];rfl) (by rw[hset];simp) (List.mem_range.2 hxin)
       omega
     . intro j hj y hy;rw[hset];split
       . rfl
       . rw[hset]at hj;split at hj
         . rename_i e;subst e;exact hclx y hy
         . exact hdown j hj y hy
   refine⟨fun hr=>done listed a w hph (prog listed hsz hr),fun i hi=>?_⟩;obtain⟨o,ho,hiL,hedges⟩:=(iB hsz).1 hi;have hin:i<ops.size:=by have:=(av.1 ho).1;simpa using this
   have ho' :ops[i]? =some o:=by rw[<- bl];exact ho
   have hcl:∀x∈cl i,listed.getD x false=true:=fun x hx=>by
    obtain⟨_,e,he,hh⟩:=hp.least i o ho x hx;rcases hh with rfl | hh
    . exact hedges e he
    . exact hdown e (hedges e he) x hh
   have hset:∀j,(listed.setIfInBounds i true).getD j false=if j=i then true else listed.getD j false:=fun j=>getSet listed i j (by omega)
   have hsz' :(listed.setIfInBounds i true).size=ops.size:=by simp[hsz]
   have hcnt' :((List.range ops.size).filter fun j=> !(listed.setIfInBounds i true).getD j false).length<=fuel:=by
    have:=Bl (p:=fun j=> !listed.getD j false) (p' :=fun j=> !(listed.setIfInBounds i true).getD j false) (fun j hj=>by
     rw[hset]at hj;split at hj
     . simp at hj
     . exact hj) (i:=i) (by simp only[hiL];rfl) (by rw[hset];simp) (List.mem_range.2 hin)
    omega
   have hdown' :∀j,(listed.setIfInBounds i true).getD j false=true-> ∀x∈cl j,(listed.setIfInBounds i true).getD x false=true:=fun j hj x hx=>by
    rw[hset];split
    . rfl
    . rw[hset]at hj;split at hj
      . rename_i e;subst e;exact hcl x hx
      . exact hdown j hj x hx
   unfold wpOp;rw[ho'];dsimp only;have hph' :(Ph1 listed a w/\ ∃j,j<cq cx.chg ops.toList/\listed.getD j false=false)\/Ph2 listed a w:=by
    rcases hph with h | h
    . by_cases hex:∃j,j<cq cx.chg ops.toList/\listed.getD j false=false
      . exact .inl ⟨h,hex⟩
      . exact .inr (norm listed a w h fun j hj=>by
         cases hh:listed.getD j false with
         | true=>rfl
         | false=>exact absurd ⟨j,hj,hh⟩ hex)
    . exact .inr h
   rcases hph' with ⟨⟨s,h1,hat,hsim⟩,jx,hjx1,hjx2⟩ | ⟨q,s,h1,h2,h3,h4,h5⟩
   . have him:i<cq cx.chg ops.toList:=by
      rcases Nat.lt_or_ge i (cq cx.chg ops.toList)with h | h
      . exact h
      . rcases hp.tail i o ho h jx (by omega)with ht | ⟨ht1,ht2,ht3⟩
        . have:=hcl jx ht;rw[hjx2]at this;cases this
        . obtain⟨ox,hox,_⟩:=ht2.op;exact absurd ⟨⟨s,h1,hat,hsim⟩,jx,ox,hjx1,ht2,hox,hjx2,fun e he=>hcl e (ht3 ox hox e he)⟩ hlate
     obtain⟨e,g2,gd,gor⟩:=stepF listed s a w i o hat hsim hdown him ho hiL hcl;have hnext:∀{a' :Act} {w' :World},Sim cx E (s.put e.1 e.2.1 e.2.2) a' w' ->wpAny cx.P .any ops Q fuel (listed.setIfInBounds i true) a' w' :=fun hs' =>
      ih _ _ _ hsz' hcnt' hdown' (.inl ⟨_,fun j hj=>by rw[hset,if_neg (by omega)];exact h1 j hj,hat.step g2 (fun j=>by
       show(listed.setIfInBounds i true).getD j false=true ↔ _
       rw[hset];split
       . simp_all
       . simp_all),hs'⟩)
     rcases gor with ⟨gw,gok⟩ | ⟨gw,gs⟩
     . rw[gw,if_pos rfl];exact .inl (Oper.wp_mono (fun a' w' hs' =>hnext hs') (gok Q))
     . rw[gw];simp only[aB,if_false];exact hnext gs
   . have hiq:i=q:=by
      have hge:q<=i:=by
       rcases Nat.lt_or_ge i q with h | h
       . rw[h3 i]at hiL;simp at hiL;omega
       . exact h
      rcases Nat.lt_or_ge q i with h | h
      . rcases hp.tail i o ho (by omega) q h with ht | ⟨ht1,_⟩
        . have:=hcl q ht;rw[h3 q]at this;simp at this
        . omega
      . omega
     subst hiq;have hdrop:ops.toList.drop i=o::ops.toList.drop (i+1):=by
      rw[List.drop_eq_getElem_cons (by simpa using hin)]
      congr 1
      exact(av.1 ho).2
     rw[hdrop]at h4;simp only[oi]at h4;have hnext:∀{s' :St} {a' :Act} {w' :World},oi cx nt true ops.toList (ops.toList.drop (i+1)) k s' ->Sim cx E s' a' w' ->wpAny cx.P .any ops Q fuel (listed.setIfInBounds i true) a' w' :=fun hk hs' =>
      ih _ _ _ hsz' hcnt' hdown' (.inr ⟨i+1,_,by omega,by omega,fun j=>by
       rw[hset,h3 j];split
       . rename_i e;subst e;simp
       . rename_i e;simp;omega,hk,hs'⟩)
     rcases ni h4 h5 with ⟨hw,h4⟩ | ⟨hw,h4⟩
     . rw[if_pos hw];obtain⟨st1,k1,k2⟩:=gk hT h4;exact .inl (Oper.wp_mono (fun a' w' hs' =>hnext k2 hs') (k1 E a w Q hn h5))
     . rw[if_neg (by simp[hw])];split at h4
       . rename_i hd;exact hnext h4 (jo (by rw[hn];exact c8 hd) h5)
       . exact h4.elim
 refine key ops.size _ a _ (by simp) ?_ ?_ (.inl ⟨st,?_,?_,hs0⟩)
 . refine Nat.le_trans (List.length_filter_le _ _) (by simp)
 . intro j hj;simp[bw,Array.getElem?_replicate]at hj;split at hj <;> simp at hj
 . intro j _;simp[bw,Array.getElem?_replicate];split <;> rfl
 . refine⟨fun t=> .inr ⟨fun j e hj=>?_,rfl⟩,fun s=> .inr ⟨fun j e hj=>?_,rfl⟩⟩
   . simp[bw,Array.getElem?_replicate]at hj;split at hj <;> simp at hj
   . simp[bw,Array.getElem?_replicate]at hj;split at hj <;> simp at hj
theorem Kv{cx:Cx}{nt:Nat}(hT:bB cx)(hm:cx.P.follows .mixedOrders=true){id:Nat}{ops:Array Oper}{E:Env}(hn:E.nt=nt){Q:Exit->Act->World->Prop}{k:St->Prop}{st:St}{a:Act}{w:World}(h:FK cx nt ops.toList k st)(hs:Sim cx E st a w)
 (hQ:∀st' a' w',k st' ->Sim cx E st' a' w' ->Q .normal a' w'):(Code.region id ops true).wp cx.P Q a w :=
 wp_mono (Q:=oC Q) (wp_region_any hm (sR hT hn h hs hQ)) (fun e a w hq=>by cases e <;> first | exact hq | exact hq.elim)
def Fp(P:Nat->Prop):List Nat->Prop
 | []=>True
 | [i]=>P i
 | i::t=>P i/\Fp P t
theorem rj{P:Nat->Prop}:∀{l:List Nat},Fp P l-> ∀i∈l,P i
 | [],_,i,hi=>by cases hi
 | [x],h,i,hi=>by simp at hi;subst hi;exact h
 | x::y::t,h,i,hi=>by
  rcases List.mem_cons.1 hi with rfl | hi
  . exact h.1
  . exact rj h.2 i hi
def Fx(ops:List Oper)(done:List Nat)(i:Nat):Bool :=
 match bT i done with
 | true=>false
 | false=>(match ops[i]? with | some o=>(fh o).all fun e=>bT e done | none=>false)
def ku(ops:List Oper)(done:List Nat):List Nat:=(List.range ops.length).filter (Fx ops done)
def oc(cx:Cx)(nt:Nat)(ops:List Oper)(k:St->Prop):Nat->List Nat->St->Prop
 | 0,_,_=>False
 | f+1,done,st=>(match ku ops done with
  | []=>k st
  | i::t=>Fp (fun i=>(match ops[i]? with
   | some o=>kY ops st o (gh cx nt false o st fun st' =>oc cx nt ops k f (i::done) st') (match dC nt o.dst with | true=>oc cx nt ops k f (i::done) (st.put o.dst (.tuple []) []) | false=>False)
   | none=>False)) (i::t))
theorem tD{i j:Nat}{l:List Nat}:bT j (i::l)=(if j=i then true else bT j l):=by
 simp only[bT];by_cases h:j=i
 . subst h;simp
 . have:Nat.beq j i=false:=by rw[<- Bool.not_eq_true];exact fun e=>h (ba e)
   rw[this,if_neg h]
theorem vP{cx:Cx}{nt:Nat}(hT:bB cx){ops:Array Oper}{E:Env}(hn:E.nt=nt){Q:Exit->Act->World->Prop}{k:St->Prop}{st:St}{a:Act}{w:World}(h:oc cx nt ops.toList k (ops.size+1) [] st)(hs:Sim cx E st a w)
 (hQ:∀st' a' w',k st' ->Sim cx E st' a' w' ->Q .normal a' w'):wpAny cx.P .any ops Q ops.size (Array.replicate ops.size false) a {w with drawn:=w.drawn+1}:=by
 have hs0:Sim cx E st a {w with drawn:=w.drawn+1}:=by
  obtain⟨σ,hs⟩:=hs;have hk:aZ w {w with drawn:=w.drawn+1} (Own E.O (live st.heap) σ) (Own E.O (live st.heap) σ):=⟨Nat.le_refl _,fun _ _ _=>rfl,fun _ h _=>h⟩
  have hss:∀s,live st.heap s->live st.heap s/\σ s=σ s:=fun s h=>⟨h,rfl⟩
  exact⟨σ,⟨hs.frame.os,hs.frame.tape,hs.frame.output,hs.frame.size,hs.frame.block⟩,hs.new,hs.apart,hs.defers,hs.nt,fun t=>(hs.slots t).mono hk hss,
   ⟨fun s b hb=>cA.mono hk hss (aQ.2 ⟨b,hb⟩) (fun _ _=>rfl) (hs.holds.blk s b hb),hs.holds.inj⟩,hs.glob,hs.globF,hs.fix⟩
 have key : ∀ (fuel : Nat) (done : List Nat) (listed : Array Bool) (st : St) (a : Act) (w : World), listed.size = ops.size -> (∀ j, listed.getD j false = bT j done) -> oc cx nt ops.toList k (fuel + 1) done st -> Sim cx E st a w ->
     wpAny cx.P .any ops Q fuel listed a w:=by
  intro fuel;have hiff:∀(done:List Nat) (listed:Array Bool),listed.size=ops.size->(∀j,listed.getD j false=bT j done)-> ∀i,i∈Region.ready .any ops listed ↔ i∈ku ops.toList done:=by
   intro done listed hsz hd i;rw[iB hsz];unfold ku Fx;simp only[List.mem_filter,List.mem_range];constructor
   . rintro⟨o,ho,h1,h2⟩;refine⟨(av.1 ho).1,?_⟩;rw[hd]at h1;rw[h1,ho];simp only[aA];intro e he;rw[<- hd];exact h2 e he
   . rintro⟨hlt,h⟩;split at h
     . cases h
     . rename_i hm;split at h
       . rename_i o ho;simp only[aA]at h;exact⟨o,ho,by rw[hd];exact hm,fun e he=>by rw[hd];exact h e he⟩
       . cases h
  have stop:∀(done:List Nat) (listed:Array Bool) (f:Nat) (st:St) (a:Act) (w:World),listed.size=ops.size->(∀j,listed.getD j false=bT j done)->oc cx nt ops.toList k (f+1) done st->Sim cx E st a w->Region.ready .any ops listed=[]->Q .normal a w:=by
   intro done listed f st a w hsz hd hk hs hr;have hnil:ku ops.toList done=[]:=by
    rw[List.eq_nil_iff_forall_not_mem];intro i hi;have:=(hiff done listed hsz hd i).2 hi;rw[hr]at this;cases this
   simp only[oc,hnil]at hk;exact hQ st a w hk hs
  induction fuel with
  | zero =>
   intro done listed st a w hsz hd hk hs;have hnil:Region.ready .any ops listed=[]:=by
    rw[List.eq_nil_iff_forall_not_mem];intro i hi;have hi' :=(hiff done listed hsz hd i).1 hi;simp only[oc]at hk;split at hk
    . rename_i h;rw[h]at hi';cases hi'
    . rename_i x t h;have:=rj hk x (by simp);split at this
      . rename_i o ho;rcases ni this hs with ⟨_,hy⟩ | ⟨_,hy⟩
        . obtain⟨st1,_,h2⟩:=gk hT hy;exact h2
        . split at hy <;> exact hy
      . exact this
   exact⟨hnil,stop done listed 0 st a w hsz hd hk hs hnil⟩
  | succ fuel ih =>
   intro done listed st a w hsz hd hk hs;refine⟨fun hr=>stop done listed (fuel+1) st a w hsz hd hk hs hr,fun i hi=>?_⟩;have hi' :=(hiff done listed hsz hd i).1 hi;obtain⟨o,ho,hiL,_⟩:=(iB hsz).1 hi;have hin:i<ops.size:=by have:=(av.1 ho).1;simpa using this
   have ho' :ops[i]? =some o:=by rw[<- bl];exact ho
   have hd' :∀j,(listed.setIfInBounds i true).getD j false=bT j (i::done):=fun j=>by
    rw[tD, <- hd];simp only[bw];by_cases e:j=i
    . subst e;simp[show j<listed.size by omega]
    . rw[if_neg e,Array.getElem?_setIfInBounds_ne (fun h=>e h.symm)]
   have hthis:kY ops.toList st o (gh cx nt false o st fun st' =>oc cx nt ops.toList k (fuel+1) (i::done) st') (match dC nt o.dst with | true=>oc cx nt ops.toList k (fuel+1) (i::done) (st.put o.dst (.tuple []) []) | false=>False):=by
    rw[oc]at hk;split at hk
    . rename_i h;rw[h]at hi';cases hi'
    . rename_i x t h;rw[h]at hi';have:=rj hk i hi';rw[ho]at this;exact this
   unfold wpOp;rw[ho'];dsimp only;rcases ni hthis hs with ⟨hw,hy⟩ | ⟨hw,hy⟩
   . rw[if_pos hw];obtain⟨st1,k1,k2⟩:=gk hT hy;exact .inl (Oper.wp_mono (fun a' w' hs' =>ih _ _ _ _ _ (by simp[hsz]) hd' k2 hs') (k1 E a w Q hn hs))
   . rw[if_neg (by simp[hw])];split at hy
     . rename_i hdd;exact ih _ _ _ _ _ (by simp[hsz]) hd' hy (jo (by rw[hn];exact c8 hdd) hs)
     . exact hy.elim
 refine key ops.size [] _ st a _ (by simp) (fun j=>?_) h hs0;simp[bw,Array.getElem?_replicate,bT];split <;> rfl
theorem MA{cx:Cx}{nt:Nat}(hT:bB cx)(hm:cx.P.follows .mixedOrders=true){id:Nat}{ops:Array Oper}{E:Env}(hn:E.nt=nt){Q:Exit->Act->World->Prop}{k:St->Prop}{st:St}{a:Act}{w:World}(h:oc cx nt ops.toList k (ops.size+1) [] st)(hs:Sim cx E st a w)
 (hQ:∀st' a' w',k st' ->Sim cx E st' a' w' ->Q .normal a' w'):(Code.region id ops true).wp cx.P Q a w:=wp_region_any hm (vP hT hn h hs hQ)
def AN:AV->Option Nat
 | .ptr s _=>some s
 | .rptr s _ _ _=>some s
 | .own s=>some s
 | .omap s=>some s
 | _=>none
theorem LH{v:AV}{s:Nat}(h:jG v=some s):AN v=some s:=by
 cases v <;> simp[jG]at h <;> exact congrArg some h
def qM:Op->Option Operand
 | .load _ x=>some x
 | .indexAddr _ x _=>some x
 | .lookup _ x _ _=>some x
 | .call c=>(match c.args.toList with | x::_=>some x | []=>none)
 | _=>none
theorem xH{cx:Cx}{st st' :St}{d:Option Nat}{ty:TypeId}{op:Op}{k:KK}(hp:ko op=true)(h1:∀x∈op.operands.toList,st.ev cx x=st'.ev cx x)
 (h3:∀x,qM op=some x-> ∀s,AN (st.ev cx x)=some s->find st'.heap s=find st.heap s):opK cx d ty st op k=opK cx d ty st' op k:=by
 have easy:lv op=false->opK cx d ty st op k=opK cx d ty st' op k:=fun hr =>
  zL h1 (fun e=>by rw[hr]at e;cases e) (fun t x e s hs=>by subst e;exact h3 x rfl s (LH hs))
 cases op <;> first | (exact easy rfl) | (cases hp;done) | skip
 case indexAddr t x i =>
  simp only[Op.operands]at h1;simp only[opK];have h4:=h3 x rfl;have hx:st.ev cx x=st'.ev cx x:=h1 x (by simp);rw[hx]at h4 ⊢;rw[h1 i (by simp)];generalize st'.ev cx x=v at h4;unfold dI;cases v <;> first | rfl | (rename_i y;cases y <;> rfl) | (have h5:=h4 _ rfl;simp only[h5])
 case lookup t x i ok =>
  simp only[Op.operands]at h1;simp only[opK];have h4:=h3 x rfl;have hx:st.ev cx x=st'.ev cx x:=h1 x (by simp);rw[hx]at h4 ⊢;rw[h1 i (by simp)];generalize st'.ev cx x=v at h4;cases v with
  | omap s =>
   have h5:=h4 s rfl;have hm:mapOf st (.omap s)=mapOf st' (.omap s):=by simp only[mapOf,h5]
   unfold ij;rw[hm];cases mapOf st' (.omap s)with
   | some m=>rfl
   | none =>
    dsimp only;generalize st'.ev cx i=key;generalize cx.ty t=T;cases key with
    | d y=>cases y <;> first | rfl | (rcases T with _ | ⟨_,_,kd,_⟩ <;> first | rfl | (cases kd <;> first | rfl | (simp only[h5])))
    | _=>rfl
  | d y=>cases y <;> rfl
  | _=>rfl
 case call c =>
  obtain⟨cal,args,ts⟩:=c;cases cal with
  | value f=>cases hp
  | invoke r m=>cases hp
  | builtin b =>
   cases b <;> first | (cases hp;done) | skip
   simp only[opK,uw];have ea:∀x∈args.toList,st.ev cx x=st'.ev cx x:=fun x hx=>h1 x (by simp[Op.operands,Call.operands];simpa using hx)
   simp only[qM]at h3;generalize args.toList=l at ea h3;generalize ts.toList=tl
   match l,tl with
   | [x],[t] =>
    have h4:=h3 x rfl;have ex:=ea x (by simp);rw[ex]at h4;simp only[ex];generalize st'.ev cx x=v at h4;unfold kq;cases v <;> first | rfl | (rename_i y;cases y <;> rfl) | (have h5:=h4 _ rfl;simp only[h5])
   | [],_=>rfl
   | [_],[]=>rfl
   | [_],_::_::_=>rfl
   | _::_::_,_=>rfl
def Mk:Op->Bool
 | .select .. =>true
 | _=>false
def xz(ops:List Oper)(cl:List (List Nat))(x:Nat):Bool :=
 match ops[x]? with
 | some ox=>(match ox.dst with
  | some d=>(List.range ops.length).any fun j=>(match ops[j]? with | some oj=>bT d (looks ops oj)&& !(bT x ((cl[j]?).getD [])) | none=>false)
  | none=>false)
 | none=>false
def ux(ops:List Oper)(cl:List (List Nat))(i:Nat)(o:Oper):Bool :=
 let ci:=(cl[i]?).getD []
 (fh o).all (fun e=>Nat.blt e i)&&ci.all (fun x=>Nat.blt x i&&(fh o).any (fun e=>Nat.beq e x||bT x ((cl[e]?).getD [])))&& !(Mk o.op) &&
 (List.range ops.length).all fun j=>(match ops[j]? with
  | some oj=>(match oj.dst with
   | some d=>(match bT d (looks ops o)with | true=>bT j ci||bT i ((cl[j]?).getD []) | false=>true)&&(Nat.beq i j||(match o.dst with | some d' => !(Nat.beq d d') | none=>true))
   | none=>true)
  | none=>false)
def rn(ops:List Oper)(cl:List (List Nat)):Nat->List Oper->Bool
 | _,[]=>true
 | i,o::t=>ux ops cl i o&&rn ops cl (i+1) t
def ie(ops:List Oper):Bool:=rn ops (closure ops []) 0 ops
structure Clean(ops:List Oper)(cl:Nat->List Nat)(lt:Nat->Bool):Prop where
 edge:∀(i:Nat) o,ops[i]? =some o-> ∀e∈fh o,e<i
 least:∀(i:Nat) o,ops[i]? =some o-> ∀x∈cl i,x<i/\ ∃e∈fh o,e=x\/x∈cl e
 sel:∀(i:Nat) o,ops[i]? =some o-> ∀cs b,o.op ≠ .select cs b
 look:∀(i:Nat) o,ops[i]? =some o-> ∀(j:Nat) oj d,ops[j]? =some oj->oj.dst=some d->d∈looks ops o->j∈cl i\/(i∈cl j/\lt j=true)
 dst:∀(i:Nat) o,ops[i]? =some o-> ∀(j:Nat) oj d,ops[j]? =some oj->i ≠ j->oj.dst=some d->o.dst ≠ some d
theorem sM{ops:List Oper}{cl:List (List Nat)}:∀{l:List Oper} {i:Nat},rn ops cl i l=true-> ∀(j:Nat) o,l[j]? =some o->ux ops cl (i+j) o=true
 | [],i,_,j,o,h=>by simp at h
 | x::t,i,hp,j,o,h=>by
  simp only[rn,aR]at hp;cases j with
  | zero=>simp at h;subst h;exact hp.1
  | succ j=>simp at h;have:=sM hp.2 j o h;rwa [show i+1+j=i+(j+1) by omega]at this
theorem Kc{ops:List Oper}(h:ie ops=true):Clean ops (fun i=>((closure ops [])[i]?).getD []) (xz ops (closure ops [])):=by
 have key:∀(i:Nat) o,ops[i]? =some o->ux ops (closure ops []) i o=true:=fun i o ho=>by
  have:=sM h i o ho;rwa [Nat.zero_add]at this
 refine⟨fun i o ho e he=>?_,fun i o ho x hx=>?_,fun i o ho cs b e=>?_,fun i o ho j oj d hj hd hm=>?_,fun i o ho j oj d hj hne hd e=>?_⟩
 all_goals
  have hp:=key i o ho;simp only[ux,aR]at hp;obtain⟨⟨⟨h1,h2⟩,h3⟩,h4⟩:=hp
 . exact Nat.lt_of_succ_le (ai (aA.1 h1 e he))
 . have:=aA.1 h2 x hx;simp only[aR,List.any_eq_true,Bool.or_eq_true]at this;obtain⟨a,e,he,hh⟩:=this;exact⟨Nat.lt_of_succ_le (ai a),e,he,hh.imp ba c9.1⟩
 . rw[e]at h3;simp[Mk]at h3
 . have:=aA.1 h4 j (List.mem_range.2 (av.1 hj).1);simp only[hj,hd,c9.2 hm,aR,Bool.or_eq_true]at this;by_cases hc:bT j (((closure ops [])[i]?).getD [])=true
   . exact .inl (c9.1 hc)
   . refine .inr ⟨c9.1 (this.1.resolve_left hc),?_⟩;unfold xz;rw[hj];simp only[hd,List.any_eq_true,List.mem_range];exact⟨i,(av.1 ho).1,by rw[ho];simp only[c9.2 hm,aF];simpa using hc⟩
 . have:=aA.1 h4 j (List.mem_range.2 (av.1 hj).1);have hij:Nat.beq i j=false:=by rw[<- Bool.not_eq_true];exact fun e=>hne (ba e)
   simp only[hj,hd,e,hij,aR]at this;simp at this
def kg(ops:List Oper):List Nat->Option Nat
 | []=>none
 | i::t=>(match ops[i]? with | some o=>(match ko o.op with | true=>(match xz ops (closure ops []) i with | false=>some i | true=>kg ops t) | false=>kg ops t) | none=>kg ops t)
def viewAt(cx:Cx)(ops:List Oper)(st:St)(x:Nat):List AV×Option Blk :=
 match ops[x]? with
 | some o=>((looks ops o++o.dst.toList).map st.get,(match qM o.op with | some y=>(match AN (st.ev cx y)with | some s=>find st.heap s | none=>none) | none=>none))
 | none=>([],none)
def AO(cx:Cx)(ops:List Oper)(st st1:St):List Nat->Prop->Prop
 | [],K=>K
 | x::t,K=>viewAt cx ops st1 x=viewAt cx ops st x/\AO cx ops st st1 t K
theorem CF{cx:Cx}{ops:List Oper}{st st1:St}{K:Prop}:∀{l:List Nat},AO cx ops st st1 l K->K/\ ∀x∈l,viewAt cx ops st1 x=viewAt cx ops st x
 | [],h=>⟨h,fun x hx=>by cases hx⟩
 | y::t,h=>by
  obtain⟨h1,h2⟩:=CF (l:=t) h.2;refine⟨h1,fun x hx=>?_⟩;rcases List.mem_cons.1 hx with rfl | hx
  . exact h.1
  . exact h2 x hx
def Mv(cx:Cx)(nt:Nat)(o:Oper)(st:St)(k:St->Prop):Prop :=
 match dC nt o.dst with
 | true=>opK cx o.dst o.type st o.op fun v bs=>(match bs with | []=>k (st.put o.dst v []) | _::_=>False)
 | false=>False
def Cl(ops:List Oper)(i:Nat)(virt:List Nat):List Nat:=virt.filter fun x=> !(bT x (((closure ops [])[i]?).getD []))
def jt(cx:Cx)(nt:Nat)(ops:List Oper)(k:St->Prop):Nat->List Nat->List Nat->St->Prop
 | 0,_,_,_=>False
 | f+1,done,virt,st=>(match kg ops (ku ops done)with
  | some i=>(match ops[i]? with
   | some o=>kY ops st o (Mv cx nt o st fun st' =>jt cx nt ops k f (i::done) (i::virt) st') (match dC nt o.dst with | true=>jt cx nt ops k f (i::done) (i::virt) (st.put o.dst (.tuple []) []) | false=>False)
   | none=>False)
  | none=>(match ku ops done with
   | []=>k st
   | i::t=>Fp (fun i=>(match ops[i]? with
    | some o=>kY ops st o (gh cx nt false o st fun st' =>AO cx ops st st' (Cl ops i virt) (jt cx nt ops k f (i::done) virt st')) (match dC nt o.dst with | true=>jt cx nt ops k f (i::done) virt (st.put o.dst (.tuple []) []) | false=>False)
    | none=>False)) (i::t)))
def Agr(D:Nat->Prop)(p a:Act):Prop:=p.defers=a.defers/\p.tmps.size=a.tmps.size/\ ∀t,¬D t->p.tmps.getD t Go.undef=a.tmps.getD t Go.undef
theorem Agr.mono{D D' :Nat->Prop}{p a:Act}(h:Agr D p a)(hd:∀t,D t->D' t):Agr D' p a:=⟨h.1,h.2.1,fun t ht=>h.2.2 t fun e=>ht (hd t e)⟩
theorem wg(a:Act)(d t:Nat)(u:Value):(a.put (some d) u).tmps.getD t Go.undef=if d=t/\d<a.tmps.size then u else a.tmps.getD t Go.undef:=by
 simp only[Act.put,bw];by_cases h:d=t
 . subst h;by_cases hl:d<a.tmps.size
   . simp[hl]
   . simp[hl]
 . rw[Array.getElem?_setIfInBounds_ne h,if_neg (fun e=>h e.1)]
theorem Agr.put{D:Nat->Prop}{p a:Act}(h:Agr D p a)(d:Option Nat)(u:Value):Agr (fun t=>D t/\d ≠ some t) (p.put d u) (a.put d u):=by
 refine⟨by cases d <;> exact h.1,by cases d <;> simp[Act.put,h.2.1],fun t ht=>?_⟩;cases d with
 | none=>exact h.2.2 t fun e=>ht ⟨e,by simp⟩
 | some d =>
  rw[wg,wg,h.2.1];by_cases e:d=t/\d<a.tmps.size
  . rw[if_pos e,if_pos e]
  . rw[if_neg e,if_neg e];by_cases hdt:d=t
    . subst hdt;have hl:¬d<a.tmps.size:=fun hl=>e ⟨rfl,hl⟩
      have hl' :¬d<p.tmps.size:=by rw[h.2.1];exact hl
      simp[hl,hl']
    . exact h.2.2 t fun e' =>ht ⟨e',fun e=>hdt (by simpa using e)⟩
theorem Agr.Lo{D:Nat->Prop}{p a:Act}(h:Agr D p a)(d:Option Nat)(u:Value):Agr (fun t=>D t\/d=some t) (p.put d u) a:=by
 refine⟨by cases d <;> exact h.1,by cases d <;> simp[Act.put,h.2.1],fun t ht=>?_⟩;cases d with
 | none=>exact h.2.2 t fun e=>ht (.inl e)
 | some d =>
  rw[wg,if_neg (fun e=>ht (.inr (by rw[e.1])))];exact h.2.2 t fun e=>ht (.inl e)
theorem Agr.eval{D:Nat->Prop}{p a:Act}(h:Agr D p a){x:Operand}(hx:∀t,x= .tmp t-> ¬D t):p.eval x=a.eval x:=by
 cases x with
 | tmp t=>exact h.2.2 t (hx t rfl)
 | _=>rfl
theorem Agr.eq{D:Nat->Prop}{p a:Act}(h:Agr D p a)(hd:∀t,¬D t):p=a:=by
 obtain⟨tp,dp⟩:=p;obtain⟨ta,da⟩:=a;obtain⟨h1,h2,h3⟩:=h;simp only at h1 h2 h3;have:tp=ta:=by
  apply Array.ext h2;intro i hi hi';have:=h3 i (hd i);simpa [hi,hi'] using this
 rw[h1,this]
theorem rK{ops:List Oper}{o:Oper}{t:Nat}(h:Operand.tmp t∈o.op.operands.toList):t∈looks ops o :=
 List.mem_append.2 (.inl (List.mem_filterMap.2 ⟨.tmp t,h,rfl⟩))
theorem Agr.exec{D:Nat->Prop}{p a:Act}(h:Agr D p a){ops:List Oper}{o:Oper}(hsel:∀cs b,o.op ≠ .select cs b)(hl:∀t∈looks ops o,¬D t):execOp p.eval o=execOp a.eval o :=
 execOp_congr o hsel fun x hx=>h.eval fun t e=>hl t (rK (by subst e;simpa using hx))
theorem Agr.wanted{D:Nat->Prop}{p a:Act}(h:Agr D p a){ops:Array Oper}{o:Oper}(hl:∀t∈looks ops.toList o,¬D t):Region.wanted o (yielded ops p.tmps)=Region.wanted o (yielded ops a.tmps):=by
 unfold Region.wanted;cases hg:o.guard with
 | none=>rfl
 | some gw =>
  obtain⟨g,want⟩:=gw;have:yielded ops p.tmps g=yielded ops a.tmps g:=by
   unfold yielded;cases hog:ops[g]? with
   | none=>rfl
   | some og =>
    cases hd:og.dst with
    | none=>simp[hog,hd]
    | some d =>
     have hm:d∈looks ops.toList o:=by
      unfold looks;rw[hg];have:ops.toList[g]? =some og:=by rw[bl];exact hog
      simp[this,hd]
     have he:=h.2.2 d (hl d hm);have hs:p.tmps.size=a.tmps.size:=h.2.1;have hpa:p.tmps[d]? =a.tmps[d]? :=by
      by_cases hlt:d<a.tmps.size
      . have hlt' :d<p.tmps.size:=by rw[hs];exact hlt
        rw[Array.getElem?_eq_getElem hlt,Array.getElem?_eq_getElem hlt'];simpa [hlt,hlt'] using he
      . rw[Array.getElem?_eq_none (show p.tmps.size<=d by rw[hs];exact Nat.le_of_not_lt hlt),Array.getElem?_eq_none (Nat.le_of_not_lt hlt)]
     simp[hog,hd,hpa]
  simp only[this]
theorem Oy{P:Program}{D:Nat->Prop}{p a:Act}(h:Agr D p a){ops:List Oper}{o:Oper}(hsel:∀cs b,o.op ≠ .select cs b)(hl:∀t∈looks ops o,¬D t){w:World}{K:Act->World->Prop}{Q:Exit->Act->World->Prop}
 (hw:o.wp P p w K fun _ _ _=>False):o.wp P a w (fun a' w' => ∃p',K p' w' /\Agr (fun t=>D t/\o.dst ≠ some t) p' a') Q:=by
 unfold Oper.wp at hw ⊢;rw[h.exec hsel hl]at hw;generalize (execOp a.eval o).run P w=r at hw ⊢;cases r with
 | ok n w' =>
  cases n <;> simp only[Oper.upon]at hw ⊢
  case value u=>exact⟨_,hw,h.put _ _⟩
  case skip=>exact⟨_,hw,h.put _ _⟩
  case defer d =>
   refine⟨_,hw,?_⟩;have:Agr D {p with defers:=d::p.defers} {a with defers:=d::a.defers}:=⟨by simp[h.1],h.2.1,h.2.2⟩
   exact this.put _ _
  case enter f args =>
   refine Calls.mono hw fun e w'' he=>?_
   cases e with
   | returned u=>exact⟨_,he,h.put _ _⟩
   | panicked c=>exact he.elim
   | outgrown=>obtain⟨_,_,hf⟩:=he;exact hf.elim
  case row row args=>exact Rows.mono hw fun u w'' he=>⟨_,he,h.put _ _⟩
 | halt x w' =>
  cases x <;> simp only[Oper.upon]at hw ⊢
def pZ(cx:Cx)(nt:Nat)(ops:List Oper)(st:St)(x:Nat):Prop :=
 ∃o v,ops[x]? =some o/\ko o.op=true/\dC nt o.dst=true/\(∀d,o.dst=some d->st.get d=v) /\
  ((gn ops st o true/\opK cx o.dst o.type st o.op (k8 v []))\/(gn ops st o false/\v= .tuple []))
theorem nA{ops:List Oper}{st st1:St}{o:Oper}{b:Bool}(hl:∀t∈looks ops o,st1.get t=st.get t)(h:gn ops st o b):gn ops st1 o b:=by
 unfold gn at h ⊢;split
 . rename_i hg;rw[hg]at h;exact h
 . rename_i g want hg;rw[hg]at h;obtain⟨og,d,h1,h2,h3⟩:=h;have hm:d∈looks ops o:=by unfold looks;rw[hg];simp[h1,h2]
   exact⟨og,d,h1,h2,by rw[hl d hm];exact h3⟩
theorem pZ.mono{cx:Cx}{nt:Nat}{ops:List Oper}{st st1:St}{x:Nat}(h:pZ cx nt ops st x)(hl:∀o,ops[x]? =some o-> ∀t,t∈looks ops o\/o.dst=some t->st1.get t=st.get t)
 (hh:∀o,ops[x]? =some o-> ∀y,qM o.op=some y-> ∀s,AN (st.ev cx y)=some s->find st1.heap s=find st.heap s):pZ cx nt ops st1 x:=by
 obtain⟨o,v,ho,hp,hd,hv,hor⟩:=h;refine⟨o,v,ho,hp,hd,fun d e=>(hl o ho d (.inr e)).trans (hv d e),?_⟩;rcases hor with ⟨hw,hk⟩ | ⟨hw,e⟩
 . refine .inl ⟨nA (fun t ht=>hl o ho t (.inl ht)) hw,?_⟩
   rwa [<- xH (st:=st) hp (fun y hy=>?_) (fun y hy s hs=>hh o ho y hy s hs)]
   cases y with
   | tmp t=>exact(hl o ho t (.inl (rK hy))).symm
   | _=>rfl
 . exact .inr ⟨nA (fun t ht=>hl o ho t (.inl ht)) hw,e⟩
theorem K9{op:Op}{y:Operand}(h:qM op=some y):y∈op.operands.toList:=by
 cases op <;> simp[qM]at h
 case call c =>
  split at h
  . rename_i x t hx;cases h;simp only[Op.operands,Call.operands,Array.toList_append,List.mem_append];right;rw[hx];simp
  . cases h
 all_goals (subst h;simp[Op.operands])
theorem JE{cx:Cx}{nt:Nat}{ops:List Oper}{st st1:St}{x:Nat}(h:pZ cx nt ops st x)(hv:viewAt cx ops st1 x=viewAt cx ops st x):pZ cx nt ops st1 x:=by
 have hs:∀o,ops[x]? =some o-> ∀t,t∈looks ops o\/o.dst=some t->st1.get t=st.get t:=fun o ho t ht=>by
  unfold viewAt at hv;rw[ho]at hv;have h1:=congrArg Prod.fst hv;simp only at h1;have hm:t∈looks ops o++o.dst.toList:=List.mem_append.2 (ht.imp id fun e=>by rw[e];simp);exact(List.map_inj_left.1 h1) t hm
 refine h.mono hs fun o ho y hy s hsite=>?_
 have hev:st1.ev cx y=st.ev cx y:=by
  cases y with
  | tmp t=>exact hs o ho t (.inl (rK (K9 hy)))
  | _=>rfl
 unfold viewAt at hv;rw[ho]at hv;have h2:=congrArg Prod.snd hv;simp only[hy,hev,hsite]at h2;exact h2
theorem kH{ops:List Oper}:∀{l:List Nat} {i:Nat},kg ops l=some i->i∈l/\(∃o,ops[i]? =some o/\ko o.op=true)/\xz ops (closure ops []) i=false
 | [],i,h=>by cases h
 | j::t,i,h=>by
  simp only[kg]at h;split at h
  . rename_i o ho;split at h
    . rename_i hp;split at h
      . rename_i hw;cases h;exact⟨by simp,⟨o,ho,hp⟩,hw⟩
      . obtain⟨h1,h2⟩:=kH h;exact⟨by simp[h1],h2⟩
    . obtain⟨h1,h2⟩:=kH h;exact⟨by simp[h1],h2⟩
  . obtain⟨h1,h2⟩:=kH h;exact⟨by simp[h1],h2⟩
theorem oE{ops:List Oper}{done:List Nat}{i:Nat}:i∈ku ops done ↔ ∃o,ops[i]? =some o/\i ∉ done/\ ∀e∈fh o,e∈done:=by
 unfold ku Fx;simp only[List.mem_filter,List.mem_range];constructor
 . rintro⟨hlt,h⟩;split at h
   . cases h
   . rename_i hm;split at h
     . rename_i o ho;exact⟨o,ho,fun e=>(by rw[c9.2 e]at hm;cases hm),fun e he=>c9.1 (aA.1 h e he)⟩
     . cases h
 . rintro⟨o,ho,hn,hb⟩;have hm:bT i done=false:=by rw[<- Bool.not_eq_true];exact fun e=>hn (c9.1 e)
   refine⟨(av.1 ho).1,?_⟩;rw[hm,ho];exact aA.2 fun e he=>c9.2 (hb e he)
structure Inv(cx:Cx)(nt:Nat)(ops:Array Oper)(cl:Nat->List Nat)(lt:Nat->Bool)(E:Env)(listed:Nat->Bool)(done virt:List Nat)(st:St)(a:Act)(w:World):Prop where
 sub:∀j,listed j=true->j∈done
 act:∃p,Sim cx E st p w/\Agr (fun t=> ∃x o,x∈done/\listed x=false/\ops.toList[x]? =some o/\o.dst=some t) p a
 re:∀x∈done,listed x=false->(x∈virt/\lt x=false)/\pZ cx nt ops.toList st x
 downD:∀j∈done,∀x∈cl j,x∈done
 downL:∀j,listed j=true-> ∀x∈cl j,listed x=true
section
variable {cx:Cx} {nt:Nat} {ops:Array Oper} {cl:Nat->List Nat} {lt:Nat->Bool} {E:Env} {listed:Nat->Bool} {done virt:List Nat} {st:St} {a:Act} {w:World}
theorem yt(hc:Clean ops.toList cl lt){S:Nat->Prop}(hd:∀j,S j-> ∀x∈cl j,S x){i:Nat}{o:Oper}(ho:ops.toList[i]? =some o)(hb:∀e∈fh o,S e):∀x∈cl i,S x:=fun x hx=>by
 obtain⟨_,e,he,hh⟩:=hc.least i o ho x hx;rcases hh with rfl | hh
 . exact hb e he
 . exact hd e (hb e he) x hh
theorem Inv.Nd(hc:Clean ops.toList cl lt)(h:Inv cx nt ops cl lt E listed done virt st a w){i:Nat}{o:Oper}(ho:ops.toList[i]? =some o)(hcl:∀x∈cl i,listed x=true) :
 ∀t∈looks ops.toList o,¬ ∃x o,x∈done/\listed x=false/\ops.toList[x]? =some o/\o.dst=some t:=by
 rintro t ht ⟨x,ox,hxd,hx,hox,hd⟩;rcases hc.look i o ho x ox t hox hd ht with hl | ⟨_,hl⟩
 . have:=hcl x hl;rw[hx]at this;cases this
 . have:=(h.re x hxd hx).1.2;rw[this]at hl;cases hl
theorem Cu(hc:Clean ops.toList cl lt)(hd:∀j∈done,∀x∈cl j,x∈done){i:Nat}{o:Oper}(ho:ops.toList[i]? =some o)(hi:i ∉ done){v:AV}{x:Nat}(hx:x∈done)(hl:lt i=false\/x ∉ cl i)(h:pZ cx nt ops.toList st x):pZ cx nt ops.toList (st.put o.dst v []) x:=by
 refine h.mono (fun ox hox t ht=>?_) (fun ox hox y hy s hs=>rfl);rw[St.gK,if_neg];intro e;rcases ht with ht | ht
 . rcases hc.look x ox hox i o t ho e ht with hk | ⟨hk,hk2⟩
   . exact hi (hd x hx i hk)
   . rcases hl with hl | hl
     . rw[hl]at hk2;cases hk2
     . exact hl hk
 . exact hc.dst x ox hox i o t ho (fun e=>hi (e ▸ hx)) e ht
theorem I0(hc:Clean ops.toList cl lt){i:Nat}{o:Oper}(ho:ops.toList[i]? =some o)(hp:ko o.op=true)(hd:dC nt o.dst=true){v:AV}
 (hor:(gn ops.toList st o true/\opK cx o.dst o.type st o.op (k8 v []))\/(gn ops.toList st o false/\v= .tuple [])):pZ cx nt ops.toList (st.put o.dst v []) i:=by
 have hl:∀t∈looks ops.toList o,(st.put o.dst v []).get t=st.get t:=fun t ht=>by
  rw[St.gK,if_neg];intro e;have:=(hc.least i o ho i ((hc.look i o ho i o t ho e ht).elim id fun h=>h.1)).1;omega
 refine⟨o,v,ho,hp,hd,fun d e=>by rw[St.gK,if_pos e],?_⟩;rcases hor with ⟨hw,hk⟩ | ⟨hw,e⟩
 . refine .inl ⟨nA hl hw,?_⟩
   rwa [<- xH (st:=st) (st' :=st.put o.dst v []) hp (fun y hy=>?_) (fun y hy s hs=>rfl)]
   cases y with
   | tmp t=>exact(hl t (rK hy)).symm
   | _=>rfl
 . exact .inr ⟨nA hl hw,e⟩
end
theorem ui{cx:Cx}{nt:Nat}(hT:bB cx){ops:Array Oper}{E:Env}(hn:E.nt=nt){Q:Exit->Act->World->Prop}{k:St->Prop}{st:St}{a:Act}{w:World}(hclean:ie ops.toList=true)
 (h:jt cx nt ops.toList k (ops.size+1) [] [] st) (hs:Sim cx E st a w) (hQ:∀st' a' w',k st' ->Sim cx E st' a' w' ->Q .normal a' w'):wpAny cx.P .any ops Q ops.size (Array.replicate ops.size false) a {w with drawn:=w.drawn+1}:=by
 have hs0:Sim cx E st a {w with drawn:=w.drawn+1}:=by
  obtain⟨σ,hs⟩:=hs;have hk:aZ w {w with drawn:=w.drawn+1} (Own E.O (live st.heap) σ) (Own E.O (live st.heap) σ):=⟨Nat.le_refl _,fun _ _ _=>rfl,fun _ h _=>h⟩
  have hss:∀s,live st.heap s->live st.heap s/\σ s=σ s:=fun s h=>⟨h,rfl⟩
  exact⟨σ,⟨hs.frame.os,hs.frame.tape,hs.frame.output,hs.frame.size,hs.frame.block⟩,hs.new,hs.apart,hs.defers,hs.nt,fun t=>(hs.slots t).mono hk hss,
   ⟨fun s b hb=>cA.mono hk hss (aQ.2 ⟨b,hb⟩) (fun _ _=>rfl) (hs.holds.blk s b hb),hs.holds.inj⟩,hs.glob,hs.globF,hs.fix⟩
 have hc:=Kc hclean;generalize hcl0:(fun i:Nat=>((closure ops.toList [])[i]?).getD [])=cl at hc;generalize hlt0:xz ops.toList (closure ops.toList [])=lt at hc;have hdst:∀{o:Oper},dC nt o.dst=true-> ∀e,o.dst=some e->e<E.nt:=fun h=>by rw[hn];exact c8 h
 have prog:∀(listed:Array Bool),listed.size=ops.size->Region.ready .any ops listed=[]-> ∀j,j<ops.size->listed.getD j false=true:=by
  intro listed hsz hr j;induction j using Nat.strongRecOn with
  | _ j ih =>
   intro hj;cases hlj:listed.getD j false with
   | true=>rfl
   | false =>
    have ho:ops.toList[j]? =some ops[j]:=by rw[bl];exact Array.getElem?_eq_getElem hj
    have:j∈Region.ready .any ops listed:=(iB hsz).2 ⟨ops[j],ho,hlj,fun e he=>by
     have:=hc.edge j _ ho e he;exact ih e this (by omega)⟩
    rw[hr]at this;cases this
 have key : ∀ (fuel : Nat) (listed : Array Bool), listed.size = ops.size -> ((List.range ops.size).filter fun j => !listed.getD j false).length <= fuel -> ∀ (f : Nat) (done virt : List Nat) (st : St) (a : Act) (w : World), jt cx nt ops.toList k f done virt st ->
     Inv cx nt ops cl lt E (fun j=>listed.getD j false) done virt st a w->wpAny cx.P .any ops Q fuel listed a w:=by
  intro fuel;induction fuel with
  | zero =>
   intro listed hsz hcnt;have hall:∀j,j<ops.size->listed.getD j false=true:=fun j hj=>by
    cases h:listed.getD j false with
    | true=>rfl
    | false =>
     have:j∈(List.range ops.size).filter fun j=> !listed.getD j false:=List.mem_filter.2 ⟨List.mem_range.2 hj,by simp[h]⟩
     have:=List.length_pos_of_mem this;omega
   intro f;cases f with
   | zero=>intro done virt st a w h _;exact h.elim
   | succ f =>
    intro done virt st a w h hi;refine⟨?_,?_⟩
    . rw[List.eq_nil_iff_forall_not_mem];intro i hi;obtain⟨o,ho,h1,_⟩:=(iB hsz).1 hi;have:i<ops.size:=by have:=(av.1 ho).1;simpa using this
      rw[hall i this]at h1;cases h1
    . have hnil:ku ops.toList done=[]:=by
       rw[List.eq_nil_iff_forall_not_mem];intro i hir;obtain⟨o,ho,h1,_⟩:=oE.1 hir;exact h1 (hi.sub i (hall i (by have:=(av.1 ho).1;simpa using this)))
      simp only[jt,hnil,kg]at h;obtain⟨p,hp,hag⟩:=hi.act;have hpa:p=a:=hag.eq fun t ⟨x,o,_,hx,ho,_⟩=>by
       have:=hall x (by have:=(av.1 ho).1;simpa using this);rw[this]at hx;cases hx
      exact hQ st a w h (hpa ▸ hp)
  | succ fuel ih =>
   intro listed hsz hcnt f;induction f with
   | zero=>intro done virt st a w h _;exact h.elim
   | succ f ihf =>
    intro done virt st a w h hi;rw[jt]at h;split at h
    . -- gone over at once
      rename_i i hfp;obtain⟨hir,⟨o,ho,hp⟩,hlw⟩:=kH hfp;rw[hlt0]at hlw;obtain⟨o',ho',hnd,hbd⟩:=oE.1 hir;rw[ho]at ho';cases ho';rw[ho]at h;dsimp only at h;have hnl:listed.getD i false=false:=by
       cases hl:listed.getD i false with
       | false=>rfl
       | true=>exact absurd (hi.sub i hl) hnd
      obtain⟨p,hsp,hag⟩:=hi.act
      have next : ∀ {v : AV} {z : Value}, dC nt o.dst = true -> Sim cx E (st.put o.dst v []) (p.put o.dst z) w -> ((gn ops.toList st o true /\ opK cx o.dst o.type st o.op (k8 v [])) \/ (gn ops.toList st o false /\ v = .tuple [])) ->
          jt cx nt ops.toList k f (i::done) (i::virt) (st.put o.dst v [])->wpAny cx.P .any ops Q (fuel+1) listed a w:=by
       intro v z hd hsim hor hk;refine ihf _ _ _ _ _ hk ⟨fun j hj=>aW _ (hi.sub j hj),⟨_,hsim,?_⟩,fun x hx hxl=>?_,fun j hj x hx=>?_,hi.downL⟩
       . refine(hag.Lo o.dst z).mono fun t ht=>?_
         rcases ht with ⟨x,ox,h1,h2,h3,h4⟩ | e
         . exact⟨x,ox,aW _ h1,h2,h3,h4⟩
         . exact⟨i,o,List.mem_cons_self .., hnl,ho,e⟩
       . rcases List.mem_cons.1 hx with rfl | hx
         . exact⟨⟨List.mem_cons_self .., hlw⟩,I0 hc ho hp hd hor⟩
         . exact⟨⟨aW _ (hi.re x hx hxl).1.1,(hi.re x hx hxl).1.2⟩,Cu hc hi.downD ho hnd hx (.inl hlw) (hi.re x hx hxl).2⟩
       . rcases List.mem_cons.1 hj with rfl | hj
         . exact aW _ (yt hc (S:=(· ∈done)) hi.downD ho hbd x hx)
         . exact aW _ (hi.downD j hj x hx)
      rcases qy h with ⟨hw,h⟩ | ⟨hw,h⟩
      . unfold Mv at h;split at h
        . rename_i hd;obtain⟨v,bs,hk,_,hj⟩:=EV h;split at hk
          . obtain⟨v',bs',hok,rfl,rfl⟩:=tK hT hj;obtain⟨_,hval⟩:=hok.2 hp;obtain⟨σ,hss⟩:=hsp;obtain⟨z,_,hrz⟩:=hval E st σ p w (St.le.refl _) hss;exact next hd ⟨σ,hss.put (hdst hd) hrz⟩ (.inl ⟨hw,hj⟩) hk
          . exact hk.elim
        . exact h.elim
      . split at h
        . rename_i hd;exact next hd (jo (hdst hd) hsp) (.inr ⟨hw,rfl⟩) h
        . exact h.elim
    . rename_i hnofp;refine⟨fun hr=>?_,fun i hir=>?_⟩
      . have hall:=prog listed hsz hr;have hnil:ku ops.toList done=[]:=by
         rw[List.eq_nil_iff_forall_not_mem];intro i hir;obtain⟨o,ho,h1,_⟩:=oE.1 hir;exact h1 (hi.sub i (hall i (by have:=(av.1 ho).1;simpa using this)))
        rw[hnil]at h;obtain⟨p,hp,hag⟩:=hi.act;have hpa:p=a:=hag.eq fun t ⟨x,o,_,hx,ho,_⟩=>by
         have:=hall x (by have:=(av.1 ho).1;simpa using this);rw[this]at hx;cases hx
        exact hQ st a w h (hpa ▸ hp)
      . obtain⟨o,ho,hiL,hedges⟩:=(iB hsz).1 hir;have hin:i<ops.size:=by have:=(av.1 ho).1;simpa using this
        have ho' :ops[i]? =some o:=by rw[<- bl];exact ho
        have hcl:∀x∈cl i,listed.getD x false=true:=yt hc (S:=fun x=>listed.getD x false=true) hi.downL ho hedges;have hset:∀j,(listed.setIfInBounds i true).getD j false=if j=i then true else listed.getD j false:=fun j=>by
         simp only[bw];by_cases e:j=i
         . subst e;simp[show j<listed.size by omega]
         . rw[if_neg e,Array.getElem?_setIfInBounds_ne (fun h=>e h.symm)]
        have hsz' :(listed.setIfInBounds i true).size=ops.size:=by simp[hsz]
        have hcnt' :((List.range ops.size).filter fun j=> !(listed.setIfInBounds i true).getD j false).length<=fuel:=by
         have:=Bl (p:=fun j=> !listed.getD j false) (p' :=fun j=> !(listed.setIfInBounds i true).getD j false) (fun j hj=>by
          rw[hset]at hj;split at hj
          . simp at hj
          . exact hj) (i:=i) (by simp only[hiL];rfl) (by rw[hset];simp) (List.mem_range.2 hin)
         omega
        have hlk:=hi.Nd hc ho hcl;have hsel:=hc.sel i o ho;have hdownL:∀j,(listed.setIfInBounds i true).getD j false=true-> ∀x∈cl j,(listed.setIfInBounds i true).getD x false=true:=fun j hj x hx=>by
         rw[hset];split
         . rfl
         . rw[hset]at hj;split at hj
           . rename_i e;subst e;exact hcl x hx
           . exact hi.downL j hj x hx
        have hD : ∀ (dn : List Nat), (∀ x ∈ done, x ∈ dn) -> ∀ t, (∃ x o, x ∈ done /\ listed.getD x false = false /\ ops.toList[x]? = some o /\ o.dst = some t) /\ o.dst ≠ some t ->
            ∃x o,x∈dn/\(listed.setIfInBounds i true).getD x false=false/\ops.toList[x]? =some o/\o.dst=some t:=by
         rintro dn hdn t ⟨⟨x,ox,h1,h2,h3,h4⟩,hne⟩;refine⟨x,ox,hdn x h1,?_,h3,h4⟩;rw[hset,if_neg]
         . exact h2
         . intro e;subst e;rw[ho]at h3;cases h3;exact hne h4
        obtain⟨p,hsp,hag⟩:=hi.act;have hwant:=hag.wanted hlk;unfold wpOp;rw[ho'];dsimp only;by_cases hid:i∈done
        . -- it was gone over
          obtain⟨_,o2,v,hox,hp,hd,hv,hor⟩:=hi.re i hid hiL;rw[ho]at hox;cases hox;have fin:∀{z:Value},Sim cx E (st.put o.dst v []) (p.put o.dst z) w->wpAny cx.P .any ops Q fuel (listed.setIfInBounds i true) (a.put o.dst z) w:=by
           intro z hsim;have hext:Sim cx E st (p.put o.dst z) w:=hsim.ext (fun t=>by
            rw[St.gK];split
            . rename_i e;exact hv t e
            . rfl) (fun s=>rfl)
           refine ih _ hsz' hcnt' (f+1) done virt st _ w (by rw[jt,hnofp];exact h) ⟨fun j hj=>?_,⟨_,hext,(hag.put o.dst z).mono (hD done fun x hx=>hx)⟩,fun x hx hxl=>?_,hi.downD,hdownL⟩
           . rw[hset]at hj;split at hj
             . rename_i e;subst e;exact hid
             . exact hi.sub j hj
           . rw[hset]at hxl;split at hxl
             . cases hxl
             . exact hi.re x hx hxl
          rcases hor with ⟨hw,hk⟩ | ⟨hw,e⟩
          . have hwp:=kX hw (fun d _=>rfl) hsp;rw[<- hwant,hwp,if_pos rfl];obtain⟨v',bs',hok,rfl,rfl⟩:=tK hT hk;obtain⟨_,hval⟩:=hok.2 hp;obtain⟨σ,hss⟩:=hsp;obtain⟨z,hz,hrz⟩:=hval E st σ p w (St.le.refl _) hss;rw[hag.exec hsel hlk]at hz;refine .inl ?_;simp only[Oper.wp,hz,Oper.upon];exact fin ⟨σ,hss.put (hdst hd) hrz⟩
          . have hwp:=kX hw (fun d _=>rfl) hsp;rw[<- hwant,hwp];simp only[aB,if_false];subst e;exact fin (jo (hdst hd) hsp)
        . -- it comes up
          have hbd:∀e∈fh o,e∈done:=fun e he=>hi.sub e (hedges e he)
          have hmem:i∈ku ops.toList done:=oE.2 ⟨o,ho,hid,hbd⟩;have hthis:kY ops.toList st o (gh cx nt false o st fun st' =>AO cx ops.toList st st' (Cl ops.toList i virt) (jt cx nt ops.toList k f (i::done) virt st')) (match dC nt o.dst with | true=>jt cx nt ops.toList k f (i::done) virt (st.put o.dst (.tuple []) []) | false=>False):=by
           split at h
           . rename_i hnil;rw[hnil]at hmem;cases hmem
           . rename_i x t hx;rw[hx]at hmem;have:=rj h i hmem;rw[ho]at this;exact this
          have fin : ∀ {st1 : St} {p' a' : Act} {w' : World}, jt cx nt ops.toList k f (i :: done) virt st1 -> Sim cx E st1 p' w' -> Agr (fun t => (∃ x o, x ∈ done /\ listed.getD x false = false /\ ops.toList[x]? = some o /\ o.dst = some t) /\ o.dst ≠ some t) p' a' ->
              (∀x∈done,listed.getD x false=false->(x∈virt/\lt x=false)/\pZ cx nt ops.toList st1 x)->wpAny cx.P .any ops Q fuel (listed.setIfInBounds i true) a' w' :=by
           intro st1 p' a' w' hk hsim hag' hre;refine ih _ hsz' hcnt' f _ _ _ _ _ hk ⟨fun j hj=>?_,⟨_,hsim,hag'.mono (hD (i::done) fun x hx=>aW _ hx)⟩,fun x hx hxl=>?_,fun j hj x hx=>?_,hdownL⟩
           . rw[hset]at hj;split at hj
             . rename_i e;subst e;exact List.mem_cons_self ..
             . exact aW _ (hi.sub j hj)
           . rw[hset]at hxl;split at hxl
             . cases hxl
             . rename_i hne;rcases List.mem_cons.1 hx with e | hx
               . exact absurd e hne
               . exact hre x hx hxl
           . rcases List.mem_cons.1 hj with rfl | hj
             . exact aW _ (yt hc (S:=(· ∈done)) hi.downD ho hbd x hx)
             . exact aW _ (hi.downD j hj x hx)
          rcases qy hthis with ⟨hw,hy⟩ | ⟨hw,hy⟩
          . have hwp:=kX hw (fun d _=>rfl) hsp;rw[<- hwant,hwp,if_pos rfl];obtain⟨st1,k1,k2⟩:=gk hT hy;obtain⟨k2,hst⟩:=CF k2;refine .inl (Oper.wp_mono (fun a' w' =>?_) (Oy hag hsel hlk (k1 E p w (fun _ _ _=>False) hn hsp)));rintro⟨p',hsp',hag'⟩;refine fin k2 hsp' hag' fun x hx hxl=>?_
            obtain⟨hxv,hre⟩:=hi.re x hx hxl;refine⟨hxv,JE hre (hst x ?_)⟩;unfold Cl;refine List.mem_filter.2 ⟨hxv.1,?_⟩;have hnm:¬x∈cl i:=fun hm=>by rw[hcl x hm]at hxl;cases hxl
            rw[<- hcl0]at hnm;simp only[Bool.not_eq_true', <- Bool.not_eq_true];exact fun e=>hnm (c9.1 e)
          . have hwp:=kX hw (fun d _=>rfl) hsp;rw[<- hwant,hwp];simp only[aB,if_false];split at hy
            . rename_i hd;exact fin hy (jo (hdst hd) hsp) (hag.put o.dst Go.undef) fun x hx hxl=>⟨(hi.re x hx hxl).1,Cu hc hi.downD ho hid hx (.inr fun hm=>by rw[hcl x hm]at hxl;cases hxl) (hi.re x hx hxl).2⟩
            . exact hy.elim
 refine key ops.size _ (by simp) ?_ (ops.size+1) [] [] st a _ h ⟨fun j hj=>?_,⟨a,hs0,rfl,rfl,fun t _=>rfl⟩,fun x hx=>(by cases hx),fun j hj=>(by cases hj),fun j hj=>?_⟩
 . refine Nat.le_trans (List.length_filter_le _ _) (by simp)
 . simp[bw,Array.getElem?_replicate]at hj;split at hj <;> simp at hj
 . simp[bw,Array.getElem?_replicate]at hj;split at hj <;> simp at hj
theorem L4{cx:Cx}{nt:Nat}(hT:bB cx)(hm:cx.P.follows .mixedOrders=true){id:Nat}{ops:Array Oper}{E:Env}(hn:E.nt=nt){Q:Exit->Act->World->Prop}{k:St->Prop}{st:St}{a:Act}{w:World}(hclean:ie ops.toList=true)
 (h:jt cx nt ops.toList k (ops.size+1) [] [] st) (hs:Sim cx E st a w) (hQ:∀st' a' w',k st' ->Sim cx E st' a' w' ->Q .normal a' w'):(Code.region id ops true).wp cx.P Q a w:=wp_region_any hm (ui hT hn hclean h hs hQ)
end NQ
