/-
  Merged texts.
-/
import Derived.Test.YtmaepddmaghpjaaGreatDoorMQt
import Derived.OrdersIn
import Derived.TacticsIn
import Derived.RangeFuncCalls
import Derived.Sort.LoopGhostIn
set_option linter.all false
namespace NQ
open Go Go.RowKit
theorem RB{l n:Nat}{P:Program}{row:String}{args:Array Value}{w:World}{R:Value->World->Prop}(h:Rows P row args w R):RowsIn (Fence.wide.inRound l) n P row args w R :=
 λc cs _=>let ⟨v,w',r,s⟩:=h c cs;⟨v,w',r,stepsIn_wide.2 s⟩
theorem RN{l n:Nat}{P:Program}{o:Oper}{a:Act}{next:Act->World->Prop}{Q:Exit->Act->World->Prop}{r:Result Next}(h:o.upon P a next Q r):o.uponIn (Fence.wide.inRound l) n P a next Q r:=by
 cases r with
 |ok x w' =>
  cases x with
  |value v=>exact h
  |skip=>exact h
  |defer d=>exact h
  |enter f args=>exact⟨λh=>by simp[Fence.wide]at h,CallsIn.inRound l (callsIn_wide.2 h)⟩
  |row row args=>exact⟨λh=>by simp[Fence.wide]at h,RB h⟩
  |_=>exact h.elim
 |halt s w' =>
  cases s with
  |panic v=>exact h
  |_=>exact h.elim
def jK(o:Oper):Bool:=match o.op with| .defer _=>false|_=>true
theorem Qg{l n:Nat}{P:Program}{o:Oper}{a:Act}{w:World}{next:Act->World->Prop}{Q:Exit->Act->World->Prop}(hd:jK o=true)(h:o.wp P a w next Q):o.wpIn (Fence.wide.inRound l) n P a w next Q:=by
 refine⟨λ_ _=>trivial,?_⟩;rw[Oper.semAt_eq _ _ _ (λc e=>by unfold jK at hd;rw[e]at hd;cases hd)];exact RN h
theorem Au{l n:Nat}{P:Program}{ops:Array Oper}{Q:Exit->Act->World->Prop}(hQ:¬LetsOut Q):∀(os:List Oper) (a:Act) (w:World),(∀o∈os,jK o=true)->wpList P ops Q os a w->wpListIn (Fence.wide.inRound l) n P ops Q os a w
 |[],_,_,_,h=>h
 |o::rest,a,w,hd,h=>by
  have ih:=Au (l:=l) (n:=n) (P:=P) (ops:=ops) hQ rest;unfold wpList at h;unfold wpListIn;split
  . rename_i hw;rw[if_pos hw]at h;rcases h with h|⟨_,h⟩
    . exact Oper.wpIn_mono (λa w h=>ih a w (λx hx=>hd x (aK _ hx)) h) (Qg (hd o (List.mem_cons_self ..)) h)
    . exact absurd h hQ
  . rename_i hw;rw[if_neg hw]at h;exact⟨λ_ _=>trivial,ih _ _ (λx hx=>hd x (aK _ hx)) h⟩
theorem yn{l n:Nat}{P:Program}{md:Region.Mode}{ops:Array Oper}{Q:Exit->Act->World->Prop}(hQ:¬LetsOut Q)(hd:∀o∈ops.toList,jK o=true):∀(fuel:Nat) (listed:Array Bool) (a:Act) (w:World),wpAny P md ops Q fuel listed a w->wpAnyIn (Fence.wide.inRound l) n P md ops Q fuel listed a w
 |0,_,_,_,h=>h
 |fuel+1,listed,a,w,h=>by
  have ih:=yn (l:=l) (n:=n) (P:=P) (md:=md) hQ hd fuel;refine⟨h.1,λi hi=>?_⟩;have h2:=h.2 i hi;unfold wpOp at h2;unfold wpOpIn;split
  . rename_i e;rw[e]at h2;exact ih _ _ _ h2
  . rename_i o e;rw[e]at h2;simp only at h2;split
    . rename_i hw;rw[if_pos hw]at h2;rcases h2 with h2|⟨_,h2⟩
      . refine Oper.wpIn_mono (λa w h=>ih _ a w h) (Qg (hd o ?_) h2);exact ao (by rw[aX];exact e)
      . exact absurd h2 hQ
    . rename_i hw;rw[if_neg hw]at h2;exact⟨λ_ _=>trivial,ih _ _ _ h2⟩
def calm:Code->Bool
 | .region _ ops _=>ops.toList.all jK
 | .seq a b=>calm a&&calm b
 | .cond _ a b=>calm a&&calm b
 | .block _ c=>calm c
 | .loop c=>calm c
 | .scope _=>false
 | .rangeFunc .. =>false
 |_=>true
theorem nY(Q:Exit->Act->World->Prop):¬LetsOut (oN Q):=λ⟨_,_,h⟩=>h
theorem Hw{cx:Cx}{nt:Nat}{fz:Nat->List Nat}(hT:bl cx)(hm:cx.P.follows .mixedOrders=true){E:Env}(hn:E.nt=nt){l n:Nat}:∀(c:Code) {Q:Ex->St->Prop} {st:St} {a:Act} {w:World} {R:Exit->Act->World->Prop},calm c=true->vc cx nt fz c Q st->Sim cx E st a w ->
 (∀e st' a' w',Q e st' ->Sim cx E st' a' w' ->R e.out a' w')->c.wpIn (Fence.wide.inRound l) n cx.P R a w:=by
 intro c;induction c with
 |skip=>intro Q st a w R _ h hs hR;exact wpIn_skip (hR .normal st a w h hs)
 |label l=>intro Q st a w R _ h hs hR;exact wpIn_label (hR .normal st a w h hs)
 |exit id=>intro Q st a w R _ h hs hR;exact wpIn_exit (hR (.exit id) st a w h hs)
 |ret=>intro Q st a w R _ h hs hR;exact wpIn_ret (hR .ret st a w h hs)
 |seq x y ihx ihy =>
  intro Q st a w R hc h hs hR;simp only[calm,ay]at hc;refine wpIn_seq (ihx (R:=Exit.then (y.wpIn (Fence.wide.inRound l) n cx.P R) R) hc.1 h hs λe st' a' w' hq hs' =>?_);cases e with
  |normal=>exact ihy hc.2 hq hs' hR
  |exit id=>exact hR (.exit id) st' a' w' hq hs'
  |ret=>exact hR .ret st' a' w' hq hs'
 |cond c x y ihx ihy =>
  intro Q st a w R hc h hs hR;simp only[calm,ay]at hc;simp only[vc]at h;split at h
  . rename_i t ht;have hr:a.eval c= .bool t:=by
     obtain⟨σ,hs⟩:=hs;have:=hs.ev (St.le.refl st) c;rw[ht]at this;exact this.bool
    cases t with
    |true=>exact wpIn_cond_true hr (ihx hc.1 h hs hR)
    |false=>exact wpIn_cond_false hr (ihy hc.2 h hs hR)
  . rename_i p ht;have hr:∃t,a.eval c= .bool t/\(t=true->p=true):=by
     obtain⟨σ,hs⟩:=hs;have:=hs.ev (St.le.refl st) c;rw[ht]at this;generalize a.eval c=u at this;cases this with|maybe _ b hb=>exact⟨b,rfl,hb⟩
    obtain⟨t,hr,hp⟩:=hr;cases t with
    |true=>exact wpIn_cond_true hr (ihx hc.1 (h.1 (hp rfl)) hs hR)
    |false=>exact wpIn_cond_false hr (ihy hc.2 h.2 hs hR)
  . exact h.elim
 |block id body ih =>
  intro Q st a w R hc h hs hR;refine wpIn_block (ih (R:=Exit.inBlock id R) hc h hs λe st' a' w' hq hs' =>?_);cases e with
  |normal=>exact hR .normal st' a' w' hq hs'
  |exit j =>
   dsimp only at hq;split at hq
   . rename_i hj;have hj:=aP hj;simp only[Ex.out,Exit.inBlock,hj,if_true];exact hR .normal st' a' w' hq hs'
   . rename_i hj;have hj:j≠id:=λe=>by subst e;simp at hj
     simp only[Ex.out,Exit.inBlock,hj,if_false];exact hR (.exit j) st' a' w' hq hs'
  |ret=>exact hR .ret st' a' w' hq hs'
 |loop body ih =>
  intro Q st a w R hc h hs hR;obtain⟨α,f,J,μ,⟨x,hx,hw⟩,hround⟩:=h;refine wpIn_loop_ghost (λn a w=> ∃y,J y/\μ y=n/\Sim cx E (f y) a w) (μ x) ⟨x,hx,rfl,hw E a w hs⟩ ?_;rintro n a w ⟨y,hy,rfl,hs'⟩;refine ih hc (hround y hy) hs' λe st' a' w' hq hs'' =>?_
  cases e with
  |normal =>
   obtain⟨z,hz,hlt,hw'⟩:=hq;exact⟨μ z,hlt,z,hz,rfl,hw' E a' w' hs''⟩
  |exit j=>exact hR (.exit j) st' a' w' hq hs''
  |ret=>exact hR .ret st' a' w' hq hs''
 |region id ops draw =>
  intro Q st a w R hc h hs hR;have hd:∀o∈ops.toList,jK o=true:=av.1 hc;simp only[vc]at h;have key:∀{st:St},lh cx nt (fz id) ops draw (Q .normal) st->Sim cx E st a w->(Code.region id ops draw).wpIn (Fence.wide.inRound l) n cx.P R a w:=by
   intro st h hs;refine wpIn_mono (Q:=oN R) ?_ (λe a w hq=>by cases e <;> first|exact hq|exact hq.elim);unfold lh at h;cases draw with
   |false =>
    simp only at h;cases hb:bG 88888 (fz id)with
    |true=>rw[hb]at h;exact wpIn_region_list (Au (nY R) _ _ _ hd (iS hT hn ops.toList h (hs.bt _) λst' a' w' hk hs' =>hR .normal st' a' w' hk hs'))
    |false=>rw[hb]at h;exact wpIn_region_list (Au (nY R) _ _ _ hd (rZ hT hn ops.toList h (hs.bt _) λst' a' w' hk hs' =>hR .normal st' a' w' hk hs'))
   |true =>
    simp only at h;cases hany:bG 99999 (fz id)with
    |true=>rw[hany]at h;exact wpIn_region_any hm (yn (nY R) hd _ _ _ _ (xf hT hn h (hs.bt _) λst' a' w' hk hs' =>hR .normal st' a' w' hk hs'))
    |false =>
     rw[hany]at h;simp only at h;cases hv:bG 66666 (fz id)with
     |true=>rw[hv]at h;exact wpIn_region_any hm (yn (nY R) hd _ _ _ _ (vz hT hn h.1 h.2 (hs.bt _) λst' a' w' hk hs' =>hR .normal st' a' w' hk hs'))
     |false=>rw[hv]at h;exact wpIn_region_any hm (yn (nY R) hd _ _ _ _ (uo hT hn h (hs.bt _) λst' a' w' hk hs' =>hR .normal st' a' w' hk hs'))
  cases hw:bG 55555 (fz id)with
  |true=>rw[hw]at h;obtain⟨st',h1,h2⟩:=h;exact key h2 (h1 E a w hs)
  |false=>rw[hw]at h;exact key h hs
 |scope c ih=>intro Q st a w R hc;cases hc
 |rangeFunc g ps x y=>intro Q st a w R hc;cases hc
 |_=>intro Q st a w R _ h;exact h.elim
end NQ
