/-
  Texts of the proof, merged in build order.
-/
import Derived.Test.YtnbnldnfkikakaaGreatDoorMQea
import Derived.Laws.Concat
set_option linter.all false
namespace NQ
open Go Go.RowKit
section
variable {cx : Cx} {st : St} {k : KK}
theorem aA.kL {E : Env} {σ : Nat -> Value} {a : Act} {w : World} (h : aA cx E st σ a w) : eH cx w := fun g cells hg => by
 obtain ⟨h1, h2, h3⟩ := h.glob g cells hg
 obtain ⟨hF, _⟩ := h.globF g cells hg
 refine ⟨Nat.lt_of_lt_of_le h1 h.frame.size, h2, fun j d hj => ?_⟩
 obtain ⟨u, hu, hr⟩ := h3 j d hj
 exact ⟨u, by rw [World.cell?_of_block (a := ⟨g, j, none⟩) (h.frame.block g hF)]; exact hu, hr.c7 (List.all_eq_true.1 h2 d (List.mem_of_getElem? hj))⟩
theorem aA.tL {E : Env} {σ : Nat -> Value} {a : Act} {w : World} (h : aA cx E st σ a w) (b : Nat) (hb : Own E.O (live st.heap) σ b) : b < w.heap.size := by
 rcases hb with hb | ⟨s, hs, e⟩
 . rcases Nat.lt_or_ge b E.w0.heap.size with hl | hg
   . exact Nat.lt_of_lt_of_le hl h.frame.size
   . exact absurd (h.new b hg) (h.apart b hb)
 . exact (h.holds.home hs e).2
theorem aA.nX {E : Env} {σ : Nat -> Value} {a : Act} {w : World} (h : aA cx E st σ a w) {g : Nat} {cells : List D} (hg : cx.gl g = some cells) : ¬ Own E.O (live st.heap) σ g := by
 obtain ⟨hF, hO⟩ := h.globF g cells hg
 rintro (hb | ⟨s, hs, e⟩)
 . exact hO hb
 . exact hF (h.holds.home hs e).1
theorem fN {E : Env} {st' : St} {σ : Nat -> Value} {a : Act} {w : World} (hle : st.le st') (hs : aA cx E st' σ a w) : ∀ (xs : List Operand) (ts : List TypeId), (bL cx st xs ts).length = xs.length /\
 ∀ (j : Nat) c, (bL cx st xs ts)[j]? = some c -> ∃ x, xs[j]? = some x /\ ag w E.O (live st'.heap) σ c (a.eval x)
 | [], ts => ⟨rfl, fun j c h => by simp [bL] at h⟩
 | x :: xs, t :: ts => by
  obtain ⟨h1, h2⟩ := fN hle hs xs ts
  refine ⟨by simp [bL, h1], fun j c hj => ?_⟩
  cases j with
  | zero => simp [bL] at hj; subst hj; exact ⟨x, rfl, gi (hs.ev hle x)⟩
  | succ j => simp [bL] at hj; simpa using h2 j c hj
 | x :: xs, [] => by
  obtain ⟨h1, h2⟩ := fN hle hs xs []
  refine ⟨by simp [bL, h1], fun j c hj => ?_⟩
  cases j with
  | zero => simp [bL] at hj; subst hj; exact ⟨x, rfl, hs.ev hle x⟩
  | succ j => simp [bL] at hj; simpa using h2 j c hj
theorem tg {w : World} {O L : Nat -> Prop} {σ : Nat -> Value} {f : AV} {g : FuncId} {xs ys : List AV} (h : callee f = some (g, xs, ys)) {u : Value} (hr : ag w O L σ f u) :
 ∃ us vs, u = .func (.func g) us vs /\ us.size = xs.length /\ vs.size = ys.length /\ (∀ j c, xs[j]? = some c -> ag w O L σ c (us.getD j Go.undef)) /\ (∀ j c, ys[j]? = some c -> ag w O L σ c (vs.getD j Go.undef)) := by
 unfold callee at h
 split at h
 . rename_i g0 first caps
   cases h
   cases hr with | d _ _ hr => cases hr with | fn _ _ _ us vs hx hl h1 h2 =>
    refine ⟨us, vs, rfl, by simpa using hx, by simpa using hl, fun j c hj => ?_, fun j c hj => ?_⟩
    . rw [List.getElem?_map] at hj
      cases hd : first[j]? with
      | none => rw [hd] at hj; cases hj
      | some y => rw [hd] at hj; cases hj; exact .d _ _ (h1 j y hd)
    . rw [List.getElem?_map] at hj
      cases hd : caps[j]? with
      | none => rw [hd] at hj; cases hj
      | some y => rw [hd] at hj; cases hj; exact .d _ _ (h2 j y hd)
 . cases h
   cases hr with | fn f first caps us vs hx hl h1 h2 => exact ⟨us, vs, rfl, hx, hl, h1, h2⟩
 . cases h
theorem CC {w w' : World} {O O' L L' : Nat -> Prop} {σ σ' : Nat -> Value} {c : AV} {v : Value} (h : ag w O L σ c v) (hf : CB c = true) : ag w' O' L' σ' c v := by
 cases h <;> first | (rename_i h; exact .d _ _ (h.c7 hf)) | cases hf
theorem vg {w w' : World} {O O' L L' : Nat -> Prop} {σ σ' : Nat -> Value} {c : AV} {v : Value} (h : ag w O L σ c v) (hf : xw c = true) : ag w' O' L' σ' c v := by
 cases h with
 | d x v h => exact .d _ _ (h.flat hf)
 | agg cs vs hl hh => exact .agg _ _ hl fun j c hj => CC (hh j c hj) (List.all_eq_true.1 hf c (List.mem_of_getElem? hj))
 | _ => cases hf
theorem vh {w w' : World} {O O' L L' : Nat -> Prop} {σ σ' : Nat -> Value} {c : AV} {v : Value} (h : ag w O L σ c v) (hf : A0 c = true) : ag w' O' L' σ' c v := by
 cases c with
 | tuple vs =>
  cases h with | tuple _ us hl hh => exact .tuple _ _ hl fun j c hj => vg (hh j c hj) (List.all_eq_true.1 hf c (List.mem_of_getElem? hj))
 | _ => exact vg h hf
theorem j3 {f g : AV -> Option D} (h : ∀ c x, f c = some x -> g c = some x) : ∀ {l : List AV} {r : List D}, bu f l = some r -> bu g l = some r
 | [], r, e => e
 | c :: t, r, e => by
  simp only [bu] at e ⊢
  split at e
  . rename_i x xs h1 h2; rw [h _ _ h1, j3 h h2]; exact e
  . cases e
theorem uf {st' : St} (hle : st.le st') (c : AV) (x : D) (h : j2 st c = some x) : j2 st' c = some x := by
 cases c <;> try exact h
 simp only [j2] at h ⊢
 split at h
 . rename_i hf; rw [hle.heap _ _ hf]; exact h
 . cases h
theorem pb {st' : St} (hle : st.le st') (c : AV) (x : D) (h : gV st c = some x) : gV st' c = some x := by
 cases c <;> simp only [gV] at h ⊢ <;> try exact uf hle _ x h
 split at h
 . rename_i hf
   rw [hle.heap _ _ hf]
   dsimp only
   split at h
   . rename_i h1; rw [j3 (uf hle) h1]; exact h
   . cases h
 . cases h
theorem ug {st' : St} (hle : st.le st') (c : AV) (x : D) (h : gU st c = some x) : gU st' c = some x := by
 cases c <;> simp only [gU] at h ⊢ <;> try exact pb hle _ x h
 split at h
 . rename_i h1 h2; rw [j3 (pb hle) h1, j3 (pb hle) h2]; exact h
 . cases h
theorem B3 {st' : St} (hle : st.le st') (c : AV) (x : D) (h : fh st c = some x) : fh st' c = some x := by
 cases c <;> simp only [fh] at h ⊢ <;> try exact ug hle _ x h
 split at h
 . rename_i h1; rw [j3 (ug hle) h1]; exact h
 . cases h
theorem tZ {xs ys zs : Array Value} {A B C : List AV} (h1 : xs.size = A.length) (h2 : ys.size = B.length) {R : AV -> Value -> Prop} (r1 : ∀ j c, A[j]? = some c -> R c (xs.getD j Go.undef))
 (r2 : ∀ j c, B[j]? = some c -> R c (ys.getD j Go.undef)) (r3 : ∀ j c, C[j]? = some c -> R c (zs.getD j Go.undef)) (j : Nat) (c : AV) (h : (A ++ B ++ C)[j]? = some c) : R c ((xs ++ ys ++ zs).getD j Go.undef) := by
 by_cases l1 : j < A.length
 . rw [List.append_assoc, List.getElem?_append_left l1] at h
   have := r1 j c h
   rwa [show (xs ++ ys ++ zs).getD j Go.undef = xs.getD j Go.undef by simp [Array.getElem?_append, show j < xs.size + ys.size by omega, show j < xs.size by omega]]
 . by_cases l2 : j < A.length + B.length
   . rw [List.getElem?_append_left (by simp; omega), List.getElem?_append_right (by omega)] at h
     have := r2 _ c h
     rwa [show (xs ++ ys ++ zs).getD j Go.undef = ys.getD (j - A.length) Go.undef by simp [Array.getElem?_append, show j < xs.size + ys.size by omega, h1, h2, show ¬ j < A.length by omega, show j - A.length < B.length by omega]]
   . rw [List.getElem?_append_right (by simp; omega)] at h
     have := r3 _ c h
     rwa [show (xs ++ ys ++ zs).getD j Go.undef = zs.getD (j - (A ++ B).length) Go.undef by simp [Array.getElem?_append, show ¬ j < xs.size + ys.size by omega, h1, h2, show ¬ j < A.length by omega, show ¬ j - A.length < B.length by omega, Nat.sub_sub]]
theorem IW {o : Oper} {c : Call} {f : Operand} (ho : o.op = .call c) (hc : c.callee = .value f) (h : fnK cx st (st.ev cx f) (bL cx st c.args.toList c.argTypes.toList) k) : ∃ v bs, bx cx o st v bs /\ k v bs := by
 unfold fnK at h
 split at h
 . rename_i g xs ys hg
   have enter : ∀ (E : Env) st' σ a w, st.le st' -> aA cx E st' σ a w -> ji cx.P g -> ∃ vals, (execOp a.eval o).run cx.P w = .ok (.enter g vals) w /\ vals.size = (xs ++ bL cx st c.args.toList c.argTypes.toList ++ ys).length /\
       ∀ (j : Nat) cc, (xs ++ bL cx st c.args.toList c.argTypes.toList ++ ys)[j]? = some cc -> ag w E.O (live st'.heap) σ cc (vals.getD j Go.undef) := by
    intro E st' σ a w hle hs hcall
    obtain ⟨us, vs, hu, s1, s2, r1, r2⟩ := tg hg (hs.ev hle f)
    obtain ⟨l1, l2⟩ := fN hle hs c.args.toList c.argTypes.toList
    obtain ⟨fn, hf1, hf2, hf3⟩ := hcall
    refine ⟨us ++ c.args.map a.eval ++ vs, ?_, ?_, tZ s1 (by simp [l1]) r1 (fun j cc hj => ?_) r2⟩
    . have hf2' : ¬ fn.name = "runtime.NumGoroutine" := by simpa using hf2
      have hf3' : ¬ fn.body = none := by intro e; rw [e] at hf3; cases hf3
      simp [execOp, ho, resolve, hc, hu, Deferred.ofValue, invoke, callFunc, hf1, hf2', hf3']
    . simp [s1, s2, l1]
    . obtain ⟨x, hx, hr⟩ := l2 j cc hj
      have : (c.args.map a.eval).getD j Go.undef = a.eval x := by rw [Array.getElem?_toList] at hx; simp [hx]
      rw [this]; exact hr
   split at h
   . unfold fZ at h
     split at h
     . rename_i s rest harg
       split at h
       . rename_i cs ds hf hds
         split at h
         . rename_i cells hcells
           obtain ⟨v, hFn, hk⟩ := h
           refine ⟨v, [], bx.wL (by rw [ho]; simp [ib, hc]) fun E st' a w Q hle hd hfresh ⟨σ, hs⟩ => ?_, hk⟩
           obtain ⟨vals, hrun, hsz, hall⟩ := enter E st' σ a w hle hs hFn.1
           rw [harg] at hall hsz
           have hf' := hle.heap s _ hf
           obtain ⟨B, cur, t, e1, e2, e3, e4, e5⟩ := hs.holds.blk s _ hf'
           have hl : live st'.heap s := au.2 ⟨_, hf'⟩
           have h0 : vals.getD 0 Go.undef = .pointer (some ⟨B, 0, none⟩) := by
            have := hall 0 _ rfl
            generalize vals.getD 0 Go.undef = u at this
            cases this with | ptr _ _ b hL hσ => rw [hσ] at e1; cases e1; rfl
           have hvals : vals = #[.pointer (some ⟨B, 0, none⟩)] ++ vals.extract 1 vals.size := by
            apply Array.ext
            . simp at hsz ⊢; omega
            . intro i h1 h2
              rcases i with _ | i
              . have : vals[0] = vals.getD 0 Go.undef := by simp [h1]
                rw [this, h0]; simp
              . simp [Array.getElem_append]
                congr 1; omega
           obtain ⟨k1, k2⟩ := bf hds
           obtain ⟨q1, q2⟩ := bf hcells
           have hcalls := hFn.2 (Own E.O (live st'.heap) σ) w B cur t (vals.extract 1 vals.size) (fun b hb => hs.tL b hb) hs.kL (fun g cells hgl => hs.nX hgl) (.inr ⟨s, hl, by rw [e1]; rfl⟩) e3 (by rw [e4, q1])
            (fun j d hj => by
             obtain ⟨cc, hcc, hfr⟩ := q2 j d hj
             have hcd : cc = .d d := by cases cc <;> simp [Bu] at hfr; rw [hfr]
             subst hcd
             refine ⟨?_, ?_⟩
             . rcases (e5 j _ hcc).1 with h1 | h1
               . exact h1
               . cases h1
             . have := (e5 j _ hcc).2
               cases this with | d _ _ h => exact h)
            (by simp at hsz ⊢; omega)
            (fun j d hj => by
             obtain ⟨cc, hcc, hfa⟩ := k2 j d hj
             have hr := hall (j + 1) cc (by simpa using hcc)
             have hlt : j + 1 < vals.size := by rw [hsz]; have := (List.getElem?_eq_some_iff.1 hcc).1; simp; omega
             have : (vals.extract 1 vals.size).getD j Go.undef = vals.getD (j + 1) Go.undef := by
              simp [Array.getD_eq_getD_getElem?, Array.getElem?_extract, hlt, show j < vals.size - 1 by omega, Nat.add_comm]
             rw [this]; exact eU hfa hr)
           rw [<- hvals] at hcalls
           simp only [Oper.wp, hrun, Oper.upon]
           refine hcalls.mono fun en w' => ?_
           rintro ⟨u, cur', t', rfl, p1, p2, p3, p4, p5, p6, p7, p8, p9⟩
           dsimp only
           have hk0 : aB w' w' (Own (Own E.O (live st'.heap) σ) (fun _ => False) (fun _ => Value.nilFunc)) (Own E.O (live st'.heap) σ) := aB.less fun b hb => .inl hb
           refine ⟨σ, hs.Jf hd hl (by rw [e1]; rfl) p1 p2 p3 p4 p5 (fun b hb => ?_) (p9.mono hk0 fun s h => h.elim)⟩
           rw [hf'] at hb; cases hb
           refine ⟨B, cur', t', e1, e2, p6, by rw [p7, q1], fun j c hj => ?_⟩
           obtain ⟨d, hd'⟩ : ∃ d, cells[j]? = some d := ⟨_, List.getElem?_eq_getElem (by rw [q1]; exact (List.getElem?_eq_some_iff.1 hj).1)⟩
           obtain ⟨cc, hcc, hfr⟩ := q2 j d hd'
           rw [hj] at hcc; cases hcc
           have hcd : c = .d d := by cases c <;> simp [Bu] at hfr; rw [hfr]
           subst hcd
           exact ⟨.inl (p8 j d hd').1, .d _ _ (p8 j d hd').2⟩
         . exact h.elim
       . exact h.elim
     . exact h.elim
   split at h
   . rename_i ds hds
     obtain ⟨v, bs, hFn, hk0⟩ := h
     have hlow : uJ bs = true := by
      cases hb : uJ bs with
      | true => rfl
      | false => rw [hb] at hk0; exact hk0.elim
     have hk : k v bs := by rw [hlow] at hk0; exact hk0
     refine ⟨v, bs, bx.wL (by rw [ho]; simp [ib, hc]) fun E st' a w Q hle hd hfresh ⟨σ, hs⟩ => ?_, hk⟩
     obtain ⟨vals, hrun, hsz, hrep⟩ := enter E st' σ a w hle hs hFn.1
     obtain ⟨l1, l2⟩ := bf hds
     have hcalls := hFn.2 (Own E.O (live st'.heap) σ) w vals (fun b hb => hs.tL b hb) hs.kL (fun g cells hgl => hs.nX hgl) (hsz.trans l1.symm) (fun j d hj => by
      obtain ⟨cc, hcc, hd⟩ := l2 j d hj
      exact eU hd (hrep j cc hcc))
     simp only [Oper.wp, hrun, Oper.upon]
     refine hcalls.mono fun e w' => ?_
     rintro ⟨u, τ, rfl, hbel, hholds, hr⟩
     dsimp only
     classical
     let σ' : Nat -> Value := fun s => if live bs s then τ s else σ s
     have e1 : ∀ s, live bs s -> σ' s = τ s := fun s hl => if_pos hl
     have e2 : ∀ s, live st'.heap s -> σ' s = σ s := fun s hl => if_neg fun hb => hfresh s hb hl
     have hkeep : aB w' w' (Own (Own E.O (live st'.heap) σ) (live bs) τ) (Own E.O (live (bs ++ st'.heap)) σ') := aB.less fun b hb => by
      rcases hb with hb | ⟨s, hl, e⟩
      . exact .inl (.inl hb)
      . rcases bO.1 hl with hl | hl
        . rw [e1 s hl] at e; exact .inr ⟨s, hl, e⟩
        . rw [e2 s hl] at e; exact .inl (.inr ⟨s, hl, e⟩)
     have hss : ∀ s, live bs s -> live (bs ++ st'.heap) s /\ σ' s = τ s := fun s hl => ⟨bO.2 (.inl hl), e1 s hl⟩
     refine ⟨σ', hs.grow hd e2 hbel (fun q0 B hB hl => by have := z8 hlow _ hl; have := (hs.fix q0 B hB).1.2; omega) (fun s b hl e => ?_) (fun s s' b hl hl' e e' => ?_) (fun s b hb => ?_) (hr.mono hkeep hss)⟩
     . rw [e1 s hl] at e; exact (hholds.home hl e).1
     . rw [e1 s hl] at e; rw [e1 s' hl'] at e'; exact hholds.inj s s' b hl hl' e e'
     . have hl : live bs s := au.2 ⟨b, hb⟩
       have := (hholds.blk s b hb).mono hkeep hss hl (fun g _ => rfl)
       have hF : ∀ b, w.heap.size <= b -> E.F b := fun b hb => hs.new b (Nat.le_trans hs.frame.size hb)
       cases b with
       | box cells => obtain ⟨b, cur, t, q1, q2, q3⟩ := this; exact ⟨b, cur, t, q1, hF _ q2, q3⟩
       | row e size rows fl => obtain ⟨xs, q1, q2, q3⟩ := this; exact ⟨xs, q1, fun b hb => hF _ (q2 b hb), q3⟩
       | smap m => obtain ⟨b, es, cl, q1, q2, q3⟩ := this; exact ⟨b, es, cl, q1, hF _ q2, q3⟩
       | kmap m => obtain ⟨b, es, cl, q1, q2, q3⟩ := this; exact ⟨b, es, cl, q1, hF _ q2, q3⟩
       | arow e size rows => obtain ⟨b, cur, t, q1, q2, q3⟩ := this; exact ⟨b, cur, t, q1, hF _ q2, q3⟩
   . split at h
     . rename_i ds hds
       obtain ⟨v, hFn, hflat, hk⟩ := h
       refine ⟨v, [], bx.wL (by rw [ho]; simp [ib, hc]) fun E st' a w Q hle hd hfresh ⟨σ, hs⟩ => ?_, hk⟩
       obtain ⟨vals, hrun, hsz, hrep⟩ := enter E st' σ a w hle hs hFn.1
       rcases Bool.or_eq_true_iff.1 hflat with hflat | hlend
       case inr =>
        unfold tF at hlend
        split at hlend
        case h_2 => cases hlend
        rename_i ds' hds'
        have hdd : ds' = ds := by
         have := qA (fun c y => zF) _ _ hds'
         rw [hds] at this; cases this; rfl
        subst hdd
        obtain ⟨l1, l2⟩ := bf hds'
        have hcalls := hFn.2 (fun b => Own E.O (live st'.heap) σ b /\ ¬ mv st σ b) w vals (fun b hb => hs.tL b hb.1) hs.kL (fun g cells hgl h => hs.nX hgl h.1) (hsz.trans l1.symm) (fun j d hj => by
         obtain ⟨cc, hcc, hd⟩ := l2 j d hj
         exact BZ (fun _ _ h => hle.heap _ _ h) hs.holds hd (hrep j cc hcc))
        simp only [Oper.wp, hrun, Oper.upon]
        refine hcalls.mono fun e w' => ?_
        rintro ⟨u, τ, rfl, hbel, hholds, hr⟩
        dsimp only
        refine ⟨σ, hs.grow hd (fun s _ => rfl) hbel (fun q0 B hB hl => by simp [live, find] at hl) (fun s b hl => by simp [live, find] at hl) (fun s s' b hl => by simp [live, find] at hl) (fun s b hb => by simp [find] at hb) (Gk (fun b hb hnb _ => ?_) hr hlend)⟩
        by_cases hl : mv st σ b
        . exact Bj (fun _ _ h => hle.heap _ _ h) hs.holds hbel.block hl
        . exact absurd (.inl ⟨hb, hl⟩) hnb
       obtain ⟨l1, l2⟩ := bf hds
       have hview : ∀ {c : AV} {x : D}, fh st c = some x -> ∀ {u : Value}, ag w E.O (live st'.heap) σ c u -> Rep w (fun _ => False) x u := fun hv _ hr => (lr hs.holds hs.apart (B3 hle _ _ hv) hr).mono (aB.less fun b h => h.elim)
       have hcalls := hFn.2 (fun _ => False) w vals (fun b hb => hb.elim) hs.kL (fun g cells hgl h => h) (hsz.trans l1.symm) (fun j d hj => by
        obtain ⟨cc, hcc, hd⟩ := l2 j d hj
        exact hview hd (hrep j cc hcc))
       simp only [Oper.wp, hrun, Oper.upon]
       refine hcalls.mono fun e w' => ?_
       rintro ⟨u, τ, rfl, hbel, hholds, hr⟩
       dsimp only
       exact ⟨σ, hs.grow hd (fun s _ => rfl) hbel (fun q0 B hB hl => by simp [live, find] at hl) (fun s b hl => by simp [live, find] at hl) (fun s s' b hl => by simp [live, find] at hl) (fun s b hb => by simp [find] at hb) (vh hr hflat)⟩
     . exact h.elim
 . exact h.elim
theorem qk (hT : aP cx) {o : Oper} (h : opK cx o.dst o.type st o.op k) : ∃ v bs, bx cx o st v bs /\ k v bs := by
 cases ho : o.op
 case move x => rw [ho] at h; exact Af (.inl ho) h
 case assign x => rw [ho] at h; exact C8 ho h
 case pick c a b => rw [ho] at h; exact G9 ho h
 case alloc e => rw [ho] at h; exact Fk hT ho h
 case box e x => rw [ho] at h; exact Ih hT ho h
 case build t parts => rw [ho] at h; exact Fl hT ho h
 case buildSlice t len parts => rw [ho] at h; exact wb hT ho h
 case load t x => rw [ho] at h; exact G8 hT ho h
 case nilCheck x => rw [ho] at h; exact zn ho h
 case binOp op t x y ty =>
  rw [ho] at h
  simp only [opK] at h
  split at h
  . rename_i xa xb hst
    obtain ⟨hle0, h⟩ := h
    unfold Dz at hst
    split at hst
    . split at hst
      . rename_i sa sb e1 e2
        cases hst
        refine ⟨_, [], bx.value fun E st' σ a w hle hs => ?_, h⟩
        have r1 := hs.ev hle x
        have r2 := hs.ev hle y
        rw [e1] at r1; rw [e2] at r2
        have v1 : ∃ b : ByteArray, a.eval x = .string b /\ b.data.toList = xa := by
         generalize a.eval x = u at r1
         cases r1 with | d _ _ hr => cases hr; exact ⟨_, rfl, by assumption⟩
        have v2 : ∃ b : ByteArray, a.eval y = .string b /\ b.data.toList = xb := by
         generalize a.eval y = u at r2
         cases r2 with | d _ _ hr => cases hr; exact ⟨_, rfl, by assumption⟩
        obtain ⟨b1, q1, l1⟩ := v1
        obtain ⟨b2, q2, l2⟩ := v2
        have s1 : b1.size = xa.length := by rw [<- l1]; exact (Array.length_toList (xs := b1.data)).symm
        have s2 : b2.size = xb.length := by rw [<- l2]; exact (Array.length_toList (xs := b2.data)).symm
        refine ⟨.string (b1 ++ b2), ?_, .d _ _ (.str _ _ (by rw [ByteArray.data_append, Array.toList_append, l1, l2]))⟩
        have hadd := run_string_add_sum (P := cx.P) w b1 b2 (by rw [s1, s2]; exact hle0)
        simp only [execOp, ho, q1, q2]
        simp [eqGuard, binOp, hadd]
      . cases hst
    . cases hst
  . exact ic (fun ρ => do eqGuard op t x y (ρ x) (ρ y); binOp op t (ρ x) (ρ y)) (fun ρ => by simp only [execOp, ho]) (fun v hv E st' σ a w hle hs => D9 hT hv (hs.ev hle x) (hs.ev hle y) x y) h
 case unOp op t x =>
  rw [ho] at h
  exact ic (fun ρ => Op.unary op (ρ x)) (fun ρ => by simp only [execOp, ho]) (fun v hv E st' σ a w hle hs => Hr hv (hs.ev hle x)) h
 case convert src dst x =>
  rw [ho] at h
  exact ic (fun ρ => convert src dst (ρ x)) (fun ρ => by simp only [execOp, ho]) (fun v hv E st' σ a w hle hs => Cr hT hv (hs.ev hle x)) h
 case makeFunc fn first caps => rw [ho] at h; exact zm ho h
 case makeMap t r => rw [ho] at h; exact Bt hT ho h
 case makeSlice t l c => rw [ho] at h; exact x7 hT ho h
 case slice t x lo hi mx =>
  rw [ho] at h
  cases mx with
  | none => exact ok_slice hT ho h
  | some _ => exact h.elim
 case fieldAddr s x f =>
  rw [ho] at h
  exact ic (fun ρ => Instr.fieldAt s (ρ x) f) (fun ρ => by simp only [execOp, ho]) (fun v hv E st' σ a w hle hs => uz hT hv (hs.ev hle x)) h
 case field t x f =>
  rw [ho] at h
  refine ic (fun ρ => Instr.field t (ρ x) f) (fun ρ => by simp only [execOp, ho]) (fun v hv E st' σ a w hle hs => ?_) h
  split at hv
  . rename_i r hr; obtain rfl := jl hv; exact AW hT hr (hs.ev hle x)
  . cases hv
 case indexAddr t x i => rw [ho] at h; exact x6 hT ho h
 case index t x i => rw [ho] at h; exact Fm hT ho h
 case lookup t x i ok => rw [ho] at h; exact C9 hT ho h
 case extract x i =>
  rw [ho] at h
  refine ic (fun ρ => Instr.extract (ρ x) i) (fun ρ => by simp only [execOp, ho]) (fun v hv E st' σ a w hle hs => ?_) h
  split at hv
  . rename_i r hr; obtain rfl := jl hv; exact xp hr (hs.ev hle x)
  . cases hv
 case call c =>
  rw [ho] at h
  simp only [opK, qI] at h
  split at h
  . rename_i hc
    split at h
    . rename_i x t ha ht; exact Ii hT ho hc ha ht h
    . exact h.elim
  . rename_i f hc; exact IW ho hc h
  . exact h.elim
 all_goals (rw [ho] at h; exact h.elim)
end
end NQ

namespace NQ
open Go Go.RowKit
def oh (cx : Cx) (o : Oper) (st st1 : St) : Prop :=
 ∀ (E : Env) a w (Q : Exit -> Act -> World -> Prop), (∀ e, o.dst = some e -> e < E.nt) -> Sim cx E st a w -> o.wp cx.P a w (fun a' w' => Sim cx E st1 a' w') Q
def pW : List AV -> (List AV -> Prop) -> Prop
 | [], k => k []
 | c :: t, k => (match wB c with | some c' => pW t fun t' => k (c' :: t') | none => pW t fun t' => k (.undef :: t'))
theorem pX : ∀ (l : List AV) (k : List AV -> Prop), pW l k -> k l
 | [], k, h => h
 | c :: t, k, h => by
  simp only [pW] at h
  split at h
  . rename_i c' hc; have := pX t _ h; rw [sE hc] at this; exact this
  . rename_i hc
    have := pX t _ h
    have e : c = .undef := by cases c <;> first | rfl | cases hc
    rw [e]; exact this
section
variable {cx : Cx} {st : St} {E : Env} {σ : Nat -> Value} {a : Act} {w : World}
theorem dt {h : List (Nat × Blk)} {s s' : Nat} {b : Blk} : find ((s, b) :: h) s' = if s = s' then some b else find h s' := by
 by_cases e : s = s'
 . subst e; rw [aC, if_pos rfl]
 . rw [aI _ _ e, if_neg e]
theorem cV {h : List (Nat × Blk)} {s : Nat} {b : Blk} (hl : live h s) (x : Nat) : live ((s, b) :: h) x ↔ live h x := by
 unfold live; rw [dt]
 by_cases e : s = x
 . subst e; simpa using (show (find h s).isSome = true from hl)
 . rw [if_neg e]
theorem dm {h : List (Nat × Blk)} {s : Nat} {b : Blk} (hl : live h s) : live ((s, b) :: h) = live h := funext fun x => propext (cV hl x)
theorem aA.write (h : aA cx E st σ a w) {s g : Nat} {b : Blk} {w' : World} {d : Option Nat} {v : AV} {u : Value} (hd : ∀ e, d = some e -> e < E.nt) (hl : live st.heap s) (hg : home (σ s) = some g)
 (h1 : w'.os = w.os) (h2 : w'.tape = w.tape) (h3 : w'.output = w.output) (h4 : w'.heap.size = w.heap.size) (h5 : ∀ k, k ≠ g -> w'.heap[k]? = w.heap[k]?)
 (hb : aB w w' (Own E.O (live st.heap) σ) (Own E.O (live st.heap) σ) -> bW w' E.F E.O (live st.heap) σ s b) (hr : ∀ w', ag w' E.O (live st.heap) σ v u) :
 aA cx E ⟨bD st.slots d v, (s, b) :: st.heap⟩ σ (a.put d u) w' := by
 have hOwn : Own E.O (live st.heap) σ g := .inr ⟨s, hl, hg⟩
 have hk : aB w w' (Own E.O (live st.heap) σ) (Own E.O (live st.heap) σ) := ⟨by omega, fun x hx _ => h5 x fun e => hx (e ▸ hOwn), fun _ hx _ => hx⟩
 have hs : ∀ s, live st.heap s -> live st.heap s /\ σ s = σ s := fun s h => ⟨h, rfl⟩
 have hget : ∀ t, (St.mk (bD st.slots d v) ((s, b) :: st.heap)).get t = if d = some t then v else st.get t := fun t => St.eJ st d v [] t
 refine ⟨⟨h1.trans h.frame.os, h2.trans h.frame.tape, h3.trans h.frame.output, by rw [h4]; exact h.frame.size, fun x hx => ?_⟩, h.new, h.apart, ?_, ?_, fun t => ?_, ⟨fun s' b' hb' => ?_, ?_⟩, h.glob, h.globF, fun q0 B hB => ⟨(h.fix q0 B hB).1, fun hl' => (h.fix q0 B hB).2 ((cV hl _).1 hl')⟩⟩
 . rw [h5 x fun e => hx (e ▸ (h.holds.home hl hg).1)]; exact h.frame.block x hx
 . cases d <;> exact h.defers
 . cases d <;> simp [Act.put, h.nt]
 . rw [hget, jn (by rw [h.nt]; exact hd)]
   show ag w' E.O (live ((s, b) :: st.heap)) σ _ _
   rw [dm hl]
   by_cases e : d = some t
   . rw [if_pos e, if_pos e]; exact hr w'
   . rw [if_neg e, if_neg e]; exact (h.slots t).mono hk hs
 . show bW w' E.F E.O (live ((s, b) :: st.heap)) σ s' b'
   rw [dm hl]
   have hb'' : find ((s, b) :: st.heap) s' = some b' := hb'
   rw [dt] at hb''
   split at hb''
   . rename_i e; subst e; cases hb''; exact hb hk
   . rename_i e
     have hl' : live st.heap s' := au.2 ⟨b', hb''⟩
     exact (h.holds.blk s' b' hb'').mono hk hs hl' fun x hx => h5 x fun e' => e (h.holds.inj s s' g hl hl' hg (e' ▸ hx))
 . exact fun s1 s2 x l1 l2 => h.holds.inj s1 s2 x ((cV hl s1).1 l1) ((cV hl s2).1 l2)
theorem aA.ID (h : aA cx E st σ a w) {s g : Nat} {b : Blk} {w' : World} {d : Option Nat} {v : AV} {u : Value} (hd : ∀ e, d = some e -> e < E.nt) (hl : live st.heap s) (hg : home (σ s) = some g)
 (h1 : w'.os = w.os) (h2 : w'.tape = w.tape) (h3 : w'.output = w.output) (h4 : w.heap.size <= w'.heap.size) (h5 : ∀ k, k < w.heap.size -> k ≠ g -> w'.heap[k]? = w.heap[k]?)
 (hb : aB w w' (Own E.O (live st.heap) σ) (Own E.O (live st.heap) σ) -> bW w' E.F E.O (live st.heap) σ s b) (hr : ag w' E.O (live st.heap) σ v u) :
 aA cx E ⟨bD st.slots d v, (s, b) :: st.heap⟩ σ (a.put d u) w' := by
 have hOwn : Own E.O (live st.heap) σ g := .inr ⟨s, hl, hg⟩
 have hk : aB w w' (Own E.O (live st.heap) σ) (Own E.O (live st.heap) σ) := ⟨h4, fun x hx hlt => h5 x hlt fun e => hx (e ▸ hOwn), fun _ hx _ => hx⟩
 have hs : ∀ s, live st.heap s -> live st.heap s /\ σ s = σ s := fun s h => ⟨h, rfl⟩
 have hget : ∀ t, (St.mk (bD st.slots d v) ((s, b) :: st.heap)).get t = if d = some t then v else st.get t := fun t => St.eJ st d v [] t
 refine ⟨⟨h1.trans h.frame.os, h2.trans h.frame.tape, h3.trans h.frame.output, Nat.le_trans h.frame.size h4, fun x hx => ?_⟩, h.new, h.apart, ?_, ?_, fun t => ?_, ⟨fun s' b' hb' => ?_, ?_⟩, h.glob, h.globF, fun q0 B hB => ⟨(h.fix q0 B hB).1, fun hl' => (h.fix q0 B hB).2 ((cV hl _).1 hl')⟩⟩
 . have hlt : x < w.heap.size := by
    rcases Nat.lt_or_ge x w.heap.size with hlt | hge
    . exact hlt
    . exact absurd (h.new x (Nat.le_trans h.frame.size hge)) hx
   rw [h5 x hlt fun e => hx (e ▸ (h.holds.home hl hg).1)]; exact h.frame.block x hx
 . cases d <;> exact h.defers
 . cases d <;> simp [Act.put, h.nt]
 . rw [hget, jn (by rw [h.nt]; exact hd)]
   show ag w' E.O (live ((s, b) :: st.heap)) σ _ _
   rw [dm hl]
   by_cases e : d = some t
   . rw [if_pos e, if_pos e]; exact hr
   . rw [if_neg e, if_neg e]; exact (h.slots t).mono hk hs
 . show bW w' E.F E.O (live ((s, b) :: st.heap)) σ s' b'
   rw [dm hl]
   have hb'' : find ((s, b) :: st.heap) s' = some b' := hb'
   rw [dt] at hb''
   split at hb''
   . rename_i e; subst e; cases hb''; exact hb hk
   . rename_i e
     have hl' : live st.heap s' := au.2 ⟨b', hb''⟩
     exact (h.holds.blk s' b' hb'').mono hk hs hl' fun x hx => h5 x (h.holds.home hl' hx).2 fun e' => e (h.holds.inj s s' g hl hl' hg (e' ▸ hx))
 . exact fun s1 s2 x l1 l2 => h.holds.inj s1 s2 x ((cV hl s1).1 l1) ((cV hl s2).1 l2)
theorem aA.IE (h : aA cx E st σ a w) {s : Nat} {b : Blk} {w' : World} {d : Option Nat} {v : AV} {u : Value} (hd : ∀ e, d = some e -> e < E.nt) (hl : live st.heap s)
 (h1 : w'.os = w.os) (h2 : w'.tape = w.tape) (h3 : w'.output = w.output) (h4 : w.heap.size <= w'.heap.size) (h5 : ∀ k, k < w.heap.size -> home (σ s) ≠ some k -> w'.heap[k]? = w.heap[k]?)
 (hb : aB w w' (Own E.O (live st.heap) σ) (Own E.O (live st.heap) σ) -> bW w' E.F E.O (live st.heap) σ s b) (hr : ag w' E.O (live st.heap) σ v u) :
 aA cx E ⟨bD st.slots d v, (s, b) :: st.heap⟩ σ (a.put d u) w' := by
 have hk : aB w w' (Own E.O (live st.heap) σ) (Own E.O (live st.heap) σ) := ⟨h4, fun x hx hlt => h5 x hlt fun e => hx (.inr ⟨s, hl, e⟩), fun _ hx _ => hx⟩
 have hs : ∀ s, live st.heap s -> live st.heap s /\ σ s = σ s := fun s h => ⟨h, rfl⟩
 have hget : ∀ t, (St.mk (bD st.slots d v) ((s, b) :: st.heap)).get t = if d = some t then v else st.get t := fun t => St.eJ st d v [] t
 refine ⟨⟨h1.trans h.frame.os, h2.trans h.frame.tape, h3.trans h.frame.output, Nat.le_trans h.frame.size h4, fun x hx => ?_⟩, h.new, h.apart, ?_, ?_, fun t => ?_, ⟨fun s' b' hb' => ?_, ?_⟩, h.glob, h.globF, fun q0 B hB => ⟨(h.fix q0 B hB).1, fun hl' => (h.fix q0 B hB).2 ((cV hl _).1 hl')⟩⟩
 . have hlt : x < w.heap.size := by
    rcases Nat.lt_or_ge x w.heap.size with hlt | hge
    . exact hlt
    . exact absurd (h.new x (Nat.le_trans h.frame.size hge)) hx
   rw [h5 x hlt fun e => hx (h.holds.home hl e).1]; exact h.frame.block x hx
 . cases d <;> exact h.defers
 . cases d <;> simp [Act.put, h.nt]
 . rw [hget, jn (by rw [h.nt]; exact hd)]
   show ag w' E.O (live ((s, b) :: st.heap)) σ _ _
   rw [dm hl]
   by_cases e : d = some t
   . rw [if_pos e, if_pos e]; exact hr
   . rw [if_neg e, if_neg e]; exact (h.slots t).mono hk hs
 . show bW w' E.F E.O (live ((s, b) :: st.heap)) σ s' b'
   rw [dm hl]
   have hb'' : find ((s, b) :: st.heap) s' = some b' := hb'
   rw [dt] at hb''
   split at hb''
   . rename_i e; subst e; cases hb''; exact hb hk
   . rename_i e
     have hl' : live st.heap s' := au.2 ⟨b', hb''⟩
     exact (h.holds.blk s' b' hb'').mono hk hs hl' fun x hx => h5 x (h.holds.home hl' hx).2 fun e' => e (h.holds.inj s s' x hl hl' e' hx)
 . exact fun s1 s2 x l1 l2 => h.holds.inj s1 s2 x ((cV hl s1).1 l1) ((cV hl s2).1 l2)
def qT (cells : List D) (off : Nat) (cs : List D) : List D := cells.take off ++ cs ++ cells.drop (off + cs.length)
theorem Da {cells cs : List D} {off : Nat} (h : off + cs.length <= cells.length) (j : Nat) : (qT cells off cs)[j]? = if off <= j /\ j < off + cs.length then cs[j - off]? else cells[j]? := by
 unfold qT
 have hto : (cells.take off).length = off := by simp; omega
 by_cases h1 : j < off
 . rw [if_neg (by omega), List.append_assoc, List.getElem?_append_left (by omega), List.getElem?_take, if_pos h1]
 . by_cases h2 : j < off + cs.length
   . rw [if_pos ⟨by omega, h2⟩, List.append_assoc, List.getElem?_append_right (by omega), hto, List.getElem?_append_left (by omega)]
   . rw [if_neg (by omega), List.getElem?_append_right (by simp; omega), List.getElem?_drop]
     congr 1; simp; omega
def yx (cx : Cx) (st : St) (t : TypeId) (ad v : AV) (k : List (Nat × Blk) -> Prop) : Prop :=
 match cx.ty t, cellsOf (iV cx t v) with
 | some ti, some cs0 => (match ng cs0 with
  | some cs => (match Nat.beq cs.length ti.size, cs.all AV.one with
   | true, true => (match ad with
    | .ptr s off => (match find st.heap s with
     | some (.box cells) => (match Nat.ble (off + cs.length) cells.length with
      | true => pW (over cells off cs) fun cells' => k ((s, .box cells') :: st.heap)
      | false => False)
     | _ => False)
    | .rptr s sz i off => (match find st.heap s, bu jO cs with
     | some (.row e sz' rows fl), some ds => (match Nat.beq sz' sz, Nat.ble (off + ds.length) sz, ds.all uM with
      | true, true, true => ∃ row, rows[i]? = some row /\ k ((s, .row e sz' (rows.set i (qT row off ds)) fl) :: st.heap)
      | _, _, _ => False)
     | _, _ => False)
    | _ => False)
   | _, _ => False)
  | none => False)
 | _, _ => False
theorem x8 {cur : Array Value} {off : Nat} {us : List Value} (h : off + us.length <= cur.size) (j : Nat) :
 (cur.toList.take off ++ us ++ cur.toList.drop (off + us.length)).toArray.getD j Go.undef = if off <= j /\ j < off + us.length then us.getD (j - off) Go.undef else cur.getD j Go.undef := by
 have hto : (cur.toList.take off).length = off := by simp; omega
 simp only [Array.getD_eq_getD_getElem?, List.getElem?_toArray]
 by_cases h1 : j < off
 . rw [if_neg (by omega), List.append_assoc, List.getElem?_append_left (by omega), List.getElem?_take, if_pos h1]; simp
 . by_cases h2 : j < off + us.length
   . rw [if_pos ⟨by omega, h2⟩, List.append_assoc, List.getElem?_append_right (by omega), hto, List.getElem?_append_left (by omega)]; simp [List.getD]
   . rw [if_neg (by omega), List.getElem?_append_right (by simp; omega), List.getElem?_drop]
     have : off + us.length + (j - (List.take off cur.toList ++ us).length) = j := by simp; omega
     rw [this]; simp
theorem FK (hT : aP cx) {o : Oper} {t : TypeId} {ad v : Operand} (ho : o.op = .store t ad v) {k : List (Nat × Blk) -> Prop} (h : yx cx st t (st.ev cx ad) (st.ev cx v) k) :
 ∃ hp, oh cx o st ⟨bD st.slots o.dst (.tuple []), hp⟩ /\ k hp := by
 unfold yx at h
 split at h
 . rename_i ti cs0 hti hcs
   split at h
   . rename_i cs hn
     obtain rfl := ky hn
     split at h
     . rename_i hsz hone
       have hsz : cs.length = ti.size := Nat.eq_of_beq_eq_true hsz
       have hrt : ∀ {w : World} {O L : Nat -> Prop} {σ : Nat -> Value}, ag w O L σ (.tuple []) Go.undef := .tuple [] #[] rfl fun j c hj => by simp at hj
       split at h
       . rename_i s off had
         split at h
         . rename_i cells hf
           split at h
           . rename_i hle
             have hle : off + cs.length <= cells.length := Nat.le_of_ble_eq_true hle
             refine ⟨_, fun E a w Q hd ⟨σ, hs⟩ => ?_, pX _ _ h⟩
             have hra := hs.ev (St.le.refl st) ad; rw [had] at hra
             have hrv := gi (cx := cx) (t := t) (hs.ev (St.le.refl st) v)
             obtain ⟨k1, k2⟩ := gG hcs hs.one hrv
             obtain ⟨r1, r2⟩ := cS (w := w) hT hti
             obtain ⟨g, cur, tt, e1, e2, e3, e4, e5⟩ := hs.holds.blk s _ hf
             have hl : live st.heap s := au.2 ⟨_, hf⟩
             generalize hua : a.eval ad = ua at hra
             cases hra with | ptr _ _ _ hL hσ =>
              rw [hσ] at e1; cases e1
              have hcells : ∀ u ∈ (a.eval v).cells.toList, u.oneCell' = true := fun u hu => by
               obtain ⟨j, hj, rfl⟩ := List.getElem_of_mem hu
               have hj' : j < cs.length := by simpa [k1] using hj
               have := k2 j _ (List.getElem?_eq_getElem hj')
               have h1 := ag.iH hs.one this (List.all_eq_true.1 hone _ (List.getElem_mem hj'))
               have hj2 : j < (a.eval v).cells.size := by simpa using hj
               simpa [hj2] using h1
              have hst := run_storeCells_at (P := cx.P) g off tt (a.eval v).cells.toList 0 cur w e3 (by simp; omega) hcells
              simp only [Nat.add_zero] at hst
              have hrun : (execOp a.eval o).run cx.P w = .ok .skip (w.setRow g (cur.toList.take off ++ (a.eval v).cells.toList ++ cur.toList.drop (off + (a.eval v).cells.toList.length)).toArray) := by
               simp only [execOp, ho, Instr.storeAt, hua]
               simp [Instr.sureAddr, storeVar, r2, k1, hsz, hst]
              simp only [Oper.wp, hrun, Oper.upon]
              refine ⟨σ, hs.write hd hl (by rw [hσ]; rfl) rfl rfl rfl (by simp) (fun x hx => setRow_other w g x _ hx) (fun hk => ?_) (fun _ => hrt)⟩
              refine ⟨g, _, tt, hσ, e2, setRow_heap w g cur _ tt _ e3, ?_, fun j c hj => ?_⟩
              . rw [rL hle, <- e4]; simp; omega
              . rw [x9 hle] at hj
                have hlen : (a.eval v).cells.toList.length = cs.length := by simpa using k1
                have hva : (cur.toList.take off ++ (a.eval v).cells.toList ++ cur.toList.drop (off + (a.eval v).cells.toList.length)).toArray.getD j Go.undef = if off <= j /\ j < off + cs.length then (a.eval v).cells.toList.getD (j - off) Go.undef else cur.getD j Go.undef := by
                 rw [x8 (by rw [hlen]; omega), hlen]
                rw [hva]
                have hss : ∀ s, live st.heap s -> live st.heap s /\ σ s = σ s := fun s h => ⟨h, rfl⟩
                split at hj
                . rename_i hin
                  rw [if_pos hin]
                  refine ⟨.inl (List.all_eq_true.1 hone c (List.mem_of_getElem? hj)), ?_⟩
                  have := (k2 _ c hj).mono hk hss
                  rwa [show (a.eval v).cells.toList.getD (j - off) Go.undef = (a.eval v).cells.getD (j - off) Go.undef by simp [List.getD]]
                . rename_i hin
                  rw [if_neg hin]
                  exact ⟨(e5 j c hj).1, (e5 j c hj).2.mono hk hss⟩
           . exact h.elim
         . exact h.elim
       . rename_i s sz i off had
         split at h
         . rename_i e sz' rows fl ds hf hds
           split at h
           . rename_i b1 b2 b3
             obtain rfl : sz' = sz := Nat.eq_of_beq_eq_true b1
             have b2 : off + ds.length <= sz' := Nat.le_of_ble_eq_true b2
             obtain ⟨row, hrow, h⟩ := h
             refine ⟨_, fun E a w Q hd ⟨σ, hs⟩ => ?_, h⟩
             have hra := hs.ev (St.le.refl st) ad; rw [had] at hra
             have hrv := gi (cx := cx) (t := t) (hs.ev (St.le.refl st) v)
             obtain ⟨k1, k2⟩ := gG hcs hs.one hrv
             obtain ⟨r1, r2⟩ := cS (w := w) hT hti
             obtain ⟨l1, l2⟩ := bf hds
             obtain ⟨xs, o1, o2, o3, o4, o5⟩ := hs.holds.blk s _ hf
             have hl : live st.heap s := au.2 ⟨_, hf⟩
             have hilt : i < rows.length := (List.getElem?_eq_some_iff.1 hrow).1
             have hrl := (o4 row (List.mem_of_getElem? hrow)).1
             generalize hua : a.eval ad = ua at hra
             cases hra with | rptr _ _ _ _ g' n' cap' hL hσ =>
              rcases o1.2 with ⟨q1, _⟩ | ⟨g, cap, cur, q1, _, q3, q4, q5, q6, q7⟩
              . rw [hσ] at q1; cases q1
              . rw [hσ] at q1; cases q1
                have hlen : (a.eval v).cells.toList.length = ds.length := by rw [Array.length_toList, k1, l1]
                have hcells : ∀ u ∈ (a.eval v).cells.toList, u.oneCell' = true := fun u hu => by
                 obtain ⟨j, hj, rfl⟩ := List.getElem_of_mem hu
                 have hj' : j < cs.length := by simpa [k1] using hj
                 have := k2 j _ (List.getElem?_eq_getElem hj')
                 have h1 := ag.iH hs.one this (List.all_eq_true.1 hone _ (List.getElem_mem hj'))
                 have hj2 : j < (a.eval v).cells.size := by simpa using hj
                 simpa [hj2] using h1
                have hroom : i * sz' + off + ds.length <= rows.length * sz' := by
                 have : (i + 1) * sz' <= rows.length * sz' := Nat.mul_le_mul_right _ hilt
                 rw [Nat.add_mul] at this; omega
                have hcap : rows.length * sz' <= cap' * sz' := Nat.mul_le_mul_right _ q4
                have hst := run_storeCells_at (P := cx.P) g' (i * sz' + off) e (a.eval v).cells.toList 0 cur w q3 (by rw [hlen]; omega) hcells
                simp only [Nat.add_zero] at hst
                have hrun : (execOp a.eval o).run cx.P w = .ok .skip (w.setRow g' (cur.toList.take (i * sz' + off) ++ (a.eval v).cells.toList ++ cur.toList.drop (i * sz' + off + (a.eval v).cells.toList.length)).toArray) := by
                 simp only [execOp, ho, Instr.storeAt, hua]
                 simp [Instr.sureAddr, storeVar, r2, k1, hsz, hst]
                simp only [Oper.wp, hrun, Oper.upon]
                refine ⟨σ, hs.write hd hl (by rw [hσ]; rfl) rfl rfl rfl (by simp) (fun x hx => setRow_other w g' x _ hx) (fun hk => ?_) (fun _ => hrt)⟩
                have hgetc : ∀ q, q < cap' * sz' -> (cur.toList.take (i * sz' + off) ++ (a.eval v).cells.toList ++ cur.toList.drop (i * sz' + off + (a.eval v).cells.toList.length))[q]? = some (if i * sz' + off <= q /\ q < i * sz' + off + ds.length then (a.eval v).cells.getD (q - (i * sz' + off)) Go.undef else cur.getD q Go.undef) := fun q hq => by
                 have := x8 (cur := cur) (off := i * sz' + off) (us := (a.eval v).cells.toList) (by rw [hlen]; omega) q
                 rw [hlen] at this ⊢
                 have hlt : q < (cur.toList.take (i * sz' + off) ++ (a.eval v).cells.toList ++ cur.toList.drop (i * sz' + off + ds.length)).length := by simp [k1, <- l1]; omega
                 rw [List.getElem?_eq_getElem hlt]
                 congr 1
                 simp only [Array.getD_eq_getD_getElem?, List.getElem?_toArray, List.getElem?_eq_getElem hlt, Option.getD_some] at this
                 rw [this]
                 simp [List.getD]
                refine ⟨(cur.toList.take (i * sz' + off) ++ (a.eval v).cells.toList ++ cur.toList.drop (i * sz' + off + (a.eval v).cells.toList.length)).take (rows.length * sz'), ⟨?_, .inr ⟨g', cap', _, ?_, Nat.zero_le _, setRow_heap w g' cur _ e _ q3, ?_, q5, ?_, ?_⟩⟩, o2, ⟨o3.1, fun e => by rw [List.length_set]; exact o3.2 e⟩, ?_, fun i' r' j d hi hj => ?_⟩
                . simp [k1, <- l1, q6]; omega
                . rw [hσ]; simp
                . simpa using q4
                . simp [k1, <- l1, q6]; omega
                . simp
                . intro r hr
                  rcases List.mem_or_eq_of_mem_set hr with hr | rfl
                  . exact o4 r hr
                  . refine ⟨by unfold qT; simp; omega, fun x hx => ?_⟩
                    unfold qT at hx
                    simp only [List.mem_append] at hx
                    rcases hx with (hx | hx) | hx
                    . exact (o4 row (List.mem_of_getElem? hrow)).2 x (List.mem_of_mem_take hx)
                    . exact List.all_eq_true.1 b3 x hx
                    . exact (o4 row (List.mem_of_getElem? hrow)).2 x (List.mem_of_mem_drop hx)
                . have hi'lt : i' < rows.length := by have := (List.getElem?_eq_some_iff.1 hi).1; simpa using this
                  have hss : ∀ s, live st.heap s -> live st.heap s /\ σ s = σ s := fun s h => ⟨h, rfl⟩
                  have old : ∀ r j d, rows[i']? = some r -> r[j]? = some d -> j < sz' -> Rep w (Own E.O (live st.heap) σ) d (cur.getD (i' * sz' + j) Go.undef) := fun r j d hr hj hjl => by
                   obtain ⟨u, hu, hd⟩ := o5 i' r j d hr hj
                   rw [<- q7, List.getElem?_take] at hu
                   split at hu
                   . have : cur.getD (i' * sz' + j) Go.undef = u := by rw [Array.getElem?_toList] at hu; simp [hu]
                     rw [this]; exact hd
                   . cases hu
                  have hjl : j < sz' := by
                   rw [List.getElem?_set] at hi
                   split at hi
                   . try rw [if_pos (by omega)] at hi
                     cases hi
                     have := (List.getElem?_eq_some_iff.1 hj).1
                     unfold qT at this; simp at this; omega
                   . have := (List.getElem?_eq_some_iff.1 hj).1
                     rw [(o4 r' (List.mem_of_getElem? hi)).1] at this; exact this
                  have hq : i' * sz' + j < rows.length * sz' := by
                   have : (i' + 1) * sz' <= rows.length * sz' := Nat.mul_le_mul_right _ hi'lt
                   rw [Nat.add_mul] at this; omega
                  refine ⟨_, by rw [List.getElem?_take, if_pos hq]; exact hgetc _ (by omega), ?_⟩
                  rw [List.getElem?_set] at hi
                  split at hi
                  . rename_i e; subst e
                    try rw [if_pos (by omega)] at hi
                    cases hi
                    rw [Da (by omega)] at hj
                    split at hj
                    . rename_i hin
                      rw [if_pos (by omega)]
                      obtain ⟨c, hc, hd⟩ := l2 _ d hj
                      have := k8 hd (k2 _ c hc)
                      rw [show i * sz' + j - (i * sz' + off) = j - off by omega]
                      exact this.mono hk
                    . rename_i hin
                      rw [if_neg (by omega)]
                      exact (old row j d hrow hj hjl).mono hk
                  . rename_i hne
                    have hdis : ¬ (i * sz' + off <= i' * sz' + j /\ i' * sz' + j < i * sz' + off + ds.length) := by
                     intro ⟨x1, x2⟩
                     rcases Nat.lt_or_ge i i' with hlt | hge
                     . have : (i + 1) * sz' <= i' * sz' := Nat.mul_le_mul_right _ hlt
                       rw [Nat.add_mul] at this; omega
                     . have hlt : i' < i := by omega
                       have : (i' + 1) * sz' <= i * sz' := Nat.mul_le_mul_right _ hlt
                       rw [Nat.add_mul] at this; omega
                    rw [if_neg hdis]
                    exact (old r' j d hi hj hjl).mono hk
           . exact h.elim
         . exact h.elim
       . exact h.elim
     . exact h.elim
   . exact h.elim
 . exact h.elim
end
end NQ

namespace NQ
open Go Go.RowKit
def fc (s : Nat) : AV -> AV
 | .own s' => (match Nat.beq s s' with | true => .undef | false => .own s')
 | .rptr s' a b c => (match Nat.beq s s' with | true => .undef | false => .rptr s' a b c)
 | .ptr s' o => (match Nat.beq s s' with | true => .undef | false => .ptr s' o)
 | .omap s' => (match Nat.beq s s' with | true => .undef | false => .omap s')
 | .d x => .d x
 | .nil z => .nil z
 | _ => .undef
def oW (s : Nat) : AV -> AV
 | .agg cs => .agg (cs.map (fc s))
 | .fn f a b => .fn f (a.map (fc s)) (b.map (fc s))
 | .tuple [] => .tuple []
 | v => fc s v
def Ip (s : Nat) : Blk -> Blk
 | .box cells => .box (cells.map (fc s))
 | .arow e z rows => .arow e z (rows.map fun r => r.map (oW s))
 | b => b
def im (s : Nat) : List (Nat × AV) -> List (Nat × AV) := fun l => l.map fun p => (p.1, oW s p.2)
def dC (s : Nat) : List (Nat × Blk) -> List (Nat × Blk) := fun l => l.map fun p => (p.1, Ip s p.2)
theorem hX {α β : Type} (f : α -> β) : ∀ (l : List (Nat × α)) (i : Nat), find (l.map fun p => (p.1, f p.2)) i = (find l i).map f
 | [], i => rfl
 | (k, x) :: t, i => by
  by_cases h : k = i
  . subst h; rw [List.map_cons, aC, aC]; rfl
  . rw [List.map_cons, aI _ _ h, aI _ _ h, hX f t i]
section
variable {w : World} {O L : Nat -> Prop} {σ : Nat -> Value} {s : Nat}
theorem qi {s s' : Nat} (h : Nat.beq s s' = false) : s' ≠ s := fun e => by subst e; simp at h
theorem sG : ∀ b, Own (fun b => O b \/ (L s /\ home (σ s) = some b)) (fun x => L x /\ x ≠ s) σ b ↔ Own O L σ b := fun b => by
 constructor
 . rintro ((h | ⟨h, e⟩) | ⟨x, ⟨h, _⟩, e⟩)
   . exact .inl h
   . exact .inr ⟨s, h, e⟩
   . exact .inr ⟨x, h, e⟩
 . rintro (h | ⟨x, h, e⟩)
   . exact .inl (.inl h)
   . by_cases hx : x = s
     . subst hx; exact .inl (.inr ⟨h, e⟩)
     . exact .inr ⟨x, ⟨h, hx⟩, e⟩
theorem gn {c : AV} {v : Value} (h : ag w O L σ c v) : ag w (fun b => O b \/ (L s /\ home (σ s) = some b)) (fun x => L x /\ x ≠ s) σ (fc s c) v := by
 cases h with
 | undef => exact .undef _
 | d x v h => exact .d _ _ (h.mono (aB.less fun b hb => (sG b).1 hb))
 | nil => exact .nil _
 | ptr s' off b hL h => simp only [fc]; split; exact .undef _; rename_i e; exact .ptr _ _ b ⟨hL, qi e⟩ h
 | own s' hL => simp only [fc]; split; exact .undef _; rename_i e; exact .own _ ⟨hL, qi e⟩
 | rptr s' size i off b n cap hL h => simp only [fc]; split; exact .undef _; rename_i e; exact .rptr _ _ _ _ b n cap ⟨hL, qi e⟩ h
 | omap s' hL => simp only [fc]; split; exact .undef _; rename_i e; exact .omap _ ⟨hL, qi e⟩
 | maybe => exact .undef _
 | agg => exact .undef _
 | tuple => exact .undef _
 | fn => exact .undef _
theorem qR {cs : List AV} {vs : Array Value} (h : ∀ j c, cs[j]? = some c -> ag w O L σ c (vs.getD j Go.undef)) (j : Nat) (c : AV) (hj : (cs.map (fc s))[j]? = some c) :
 ag w (fun b => O b \/ (L s /\ home (σ s) = some b)) (fun x => L x /\ x ≠ s) σ c (vs.getD j Go.undef) := by
 rw [List.getElem?_map] at hj
 cases hc : cs[j]? with
 | none => rw [hc] at hj; cases hj
 | some y => rw [hc] at hj; cases hj; exact gn (h j y hc)
theorem vF {c : AV} {v : Value} (h : ag w O L σ c v) : ag w (fun b => O b \/ (L s /\ home (σ s) = some b)) (fun x => L x /\ x ≠ s) σ (oW s c) v := by
 cases h with
 | agg cs vs hl hh => exact .agg _ _ (by simpa using hl) (qR hh)
 | fn f first caps xs vs hx hl h1 h2 => exact .fn _ _ _ _ _ (by simpa using hx) (by simpa using hl) (qR h1) (qR h2)
 | tuple cs vs hl hh =>
  cases cs with
  | nil => exact .tuple [] vs hl fun j c hj => by simp at hj
  | cons => exact .undef _
 | undef => exact .undef _
 | d x v h => exact gn (.d x v h)
 | nil => exact .nil _
 | ptr s' off b hL h => exact gn (.ptr s' off b hL h)
 | own s' hL => exact gn (.own s' hL)
 | rptr s' size i off b n cap hL h => exact gn (.rptr s' size i off b n cap hL h)
 | omap s' hL => exact gn (.omap s' hL)
 | maybe p b h => exact gn (.maybe p b h)
theorem tT {c : AV} (h : c.one = true \/ c = .undef) : (fc s c).one = true \/ fc s c = .undef := by
 rcases h with h | rfl
 . cases c <;> simp only [fc] <;> first | exact .inl h | exact .inr rfl | exact .inr trivial | (split <;> first | exact .inr rfl | exact .inl rfl)
 . exact .inr rfl
theorem Dp {c : AV} (h : c.one = true \/ c = .undef) : (oW s c).one = true \/ oW s c = .undef := by
 cases c with
 | agg => rcases h with h | h <;> cases h
 | tuple => rcases h with h | h <;> cases h
 | fn => exact .inl rfl
 | _ => exact tT (s := s) h
end
section
variable {cx : Cx} {st : St} {E : Env} {σ : Nat -> Value} {a : Act} {w : World}
theorem CG {slots : List (Nat × AV)} {h h' : List (Nat × Blk)} (s t : Nat) : (St.mk (im s slots) h).get t = oW s ((St.mk slots h').get t) := by
 simp only [St.get, im, hX]
 cases find slots t <;> rfl
theorem tH {h : List (Nat × Blk)} {s : Nat} : live (dC s h) = live h := funext fun x => by
 simp only [live, dC, hX]
 cases find h x <;> rfl
theorem aA.Gg (h : aA cx E st σ a w) {s : Nat} {b : Blk} {w' : World} {d : Option Nat} {u τ : Value} {v : AV} (hd : ∀ e, d = some e -> e < E.nt) (hl : live st.heap s) (hrow : ∀ x, σ s ≠ .pointer x)
 (h1 : w'.os = w.os) (h2 : w'.tape = w.tape) (h3 : w'.output = w.output) (h4 : w.heap.size <= w'.heap.size) (h5 : ∀ k, k < w.heap.size -> home (σ s) ≠ some k -> w'.heap[k]? = w.heap[k]?)
 (hτ : ∀ g, home τ = some g -> home (σ s) = some g \/ w.heap.size <= g)
 (hb : ∀ σ' : Nat -> Value, σ' s = τ -> (∀ x, x ≠ s -> σ' x = σ x) -> aB w w' (Own E.O (live st.heap) σ) (Own E.O (live st.heap) σ') -> bW w' E.F E.O (live st.heap) σ' s b)
 (hr : ∀ σ' : Nat -> Value, σ' s = τ -> ag w' E.O (live st.heap) σ' v u) :
 ∃ σ', aA cx E ⟨bD (im s st.slots) d v, (s, b) :: dC s st.heap⟩ σ' (a.put d u) w' := by
 let σ' : Nat -> Value := fun x => if x = s then τ else σ x
 have e1 : σ' s = τ := if_pos rfl
 have e2 : ∀ x, x ≠ s -> σ' x = σ x := fun x hx => if_neg hx
 have hsz := h.frame.size
 have hk : aB w w' (Own E.O (live st.heap) σ) (Own E.O (live st.heap) σ') := by
  refine ⟨h4, fun x hx hlt => h5 x hlt fun e => hx (.inr ⟨s, hl, e⟩), fun x hx hlt ho => ?_⟩
  rcases ho with ho | ⟨y, hy, e⟩
  . exact hx (.inl ho)
  . by_cases hys : y = s
    . subst hys; rw [e1] at e
      rcases hτ x e with e | e
      . exact hx (.inr ⟨y, hy, e⟩)
      . omega
    . rw [e2 y hys] at e; exact hx (.inr ⟨y, hy, e⟩)
 have hk' : aB w w' (Own (fun b => E.O b \/ (live st.heap s /\ home (σ s) = some b)) (fun x => live st.heap x /\ x ≠ s) σ) (Own E.O (live st.heap) σ') :=
  ⟨hk.size, fun x hx hlt => hk.block x (fun ho => hx ((sG x).2 ho)) hlt, fun x hx hlt => hk.own x (fun ho => hx ((sG x).2 ho)) hlt⟩
 have hs' : ∀ x, (live st.heap x /\ x ≠ s) -> live st.heap x /\ σ' x = σ x := fun x ⟨hx, hne⟩ => ⟨hx, e2 x hne⟩
 have hlive : live ((s, b) :: dC s st.heap) = live st.heap := by
  rw [dm (by rw [tH]; exact hl), tH]
 have hget : ∀ t, (St.mk (bD (im s st.slots) d v) ((s, b) :: dC s st.heap)).get t = if d = some t then v else oW s (st.get t) := fun t => by
  have := St.eJ ⟨im s st.slots, dC s st.heap⟩ d v [] t
  rw [CG (h' := st.heap)] at this
  exact this
 refine ⟨σ', ⟨h1.trans h.frame.os, h2.trans h.frame.tape, h3.trans h.frame.output, by omega, fun x hx => ?_⟩, h.new, h.apart, ?_, ?_, fun t => ?_, ⟨fun s' b' hb' => ?_, fun x y g lx ly ex ey => ?_⟩, h.glob, h.globF, fun q0 B hB => ⟨(h.fix q0 B hB).1, fun hl' => ?_⟩⟩
 . have hlt : x < w.heap.size := by
    rcases Nat.lt_or_ge x w.heap.size with hlt | hge
    . exact hlt
    . exact absurd (h.new x (by omega)) hx
   rw [h5 x hlt fun e => hx (h.holds.home hl e).1]; exact h.frame.block x hx
 . cases d <;> exact h.defers
 . cases d <;> simp [Act.put, h.nt]
 . rw [hget, jn (by rw [h.nt]; exact hd)]
   show ag w' E.O (live ((s, b) :: dC s st.heap)) σ' _ _
   rw [hlive]
   by_cases e : d = some t
   . rw [if_pos e, if_pos e]; exact hr σ' e1
   . rw [if_neg e, if_neg e]; exact (vF (s := s) (h.slots t)).mono hk' hs'
 . show bW w' E.F E.O (live ((s, b) :: dC s st.heap)) σ' s' b'
   rw [hlive]
   have hb'' : find ((s, b) :: dC s st.heap) s' = some b' := hb'
   rw [dt] at hb''
   split at hb''
   . rename_i e; subst e; cases hb''; exact hb σ' e1 e2 hk
   . rename_i e
     simp only [dC, hX] at hb''
     cases hf : find st.heap s' with
     | none => rw [hf] at hb''; cases hb''
     | some b0 =>
      rw [hf] at hb''; cases hb''
      have hl' : live st.heap s' := au.2 ⟨b0, hf⟩
      have hne : s' ≠ s := fun e' => e e'.symm
      have hold := h.holds.blk s' b0 hf
      have hfix : ∀ g, home (σ s') = some g -> w'.heap[g]? = w.heap[g]? := fun g hg => h5 g (h.holds.home hl' hg).2 fun e' => hne (h.holds.inj s' s g hl' hl hg e')
      cases b0 with
      | box cells =>
       obtain ⟨g, cur, t, p1, p2, p3, p4, p5⟩ := hold
       refine ⟨g, cur, t, (e2 s' hne).trans p1, p2, (hfix g (by rw [p1]; rfl)).trans p3, by simpa using p4, fun j c hj => ?_⟩
       have hr' := qR (s := s) (fun j c hj => (p5 j c hj).2) j c hj
       refine ⟨?_, hr'.mono hk' hs'⟩
       rw [List.getElem?_map] at hj
       cases hc : cells[j]? with
       | none => rw [hc] at hj; cases hj
       | some y => rw [hc] at hj; cases hj; exact tT (p5 j y hc).1
      | row e size rows fl =>
       obtain ⟨xs, p1, p2, p3, p4, p5⟩ := hold
       refine ⟨xs, ⟨p1.1, ?_⟩, ?_, ⟨p3.1, fun e => by rw [e2 s' hne]; exact p3.2 e⟩, p4, fun i r j d hi hj => ?_⟩
       . rw [e2 s' hne]
         rcases p1.2 with q | ⟨g, cap, cur, q1, q2, q3, q4⟩
         . exact .inl q
         . exact .inr ⟨g, cap, cur, q1, q2, (hfix g (by rw [q1]; rfl)).trans q3, q4⟩
       . rw [e2 s' hne]; exact p2
       . obtain ⟨u, hu, hd⟩ := p5 i r j d hi hj
         exact ⟨u, hu, hd.mono hk⟩
      | smap m =>
       obtain ⟨g, es, cl, p1, p2, p3, p4, p5⟩ := hold
       refine ⟨g, es, cl, (e2 s' hne).trans p1, p2, (hfix g (by rw [p1]; rfl)).trans p3, p4, fun j k v hj => ?_⟩
       obtain ⟨e, he, hk1, hv⟩ := p5 j k v hj
       exact ⟨e, he, hk1.mono hk, hv.mono hk⟩
      | kmap m =>
       obtain ⟨g, es, cl, p1, p2, p3, p4⟩ := hold
       exact ⟨g, es, cl, (e2 s' hne).trans p1, p2, (hfix g (by rw [p1]; rfl)).trans p3, p4.mono fun _ _ h => h.mono hk⟩
      | arow e size rows =>
       obtain ⟨g, cur, t, p1, p2, p3, p4, p5⟩ := hold
       refine ⟨g, cur, t, by rw [e2 s' hne, List.length_map]; exact p1, p2, (hfix g (by rw [p1]; rfl)).trans p3, fun r hr => ?_, fun i r j c hi hj => ?_⟩
       . obtain ⟨r0, hr0, rfl⟩ := List.mem_map.1 hr
         rw [List.length_map]; exact p4 r0 hr0
       . obtain ⟨r0, c0, h1, h2, rfl⟩ := sM hi hj
         exact ⟨⟨Dp (p5 i r0 j c0 h1 h2).1.1, (p5 i r0 j c0 h1 h2).1.2⟩, (vF (s := s) (p5 i r0 j c0 h1 h2).2).mono hk' hs'⟩
 . rw [hlive] at lx ly
   by_cases hx : x = s <;> by_cases hy : y = s
   . rw [hx, hy]
   . subst hx
     rw [e1] at ex; rw [e2 y hy] at ey
     rcases hτ g ex with e | e
     . exact h.holds.inj x y g lx ly e ey
     . have := (h.holds.home ly ey).2; omega
   . subst hy
     rw [e1] at ey; rw [e2 x hx] at ex
     rcases hτ g ey with e | e
     . exact h.holds.inj x y g lx ly ex e
     . have := (h.holds.home lx ex).2; omega
   . rw [e2 x hx] at ex; rw [e2 y hy] at ey
     exact h.holds.inj x y g lx ly ex ey
 . have hl' : live ((s, b) :: dC s st.heap) q0 := hl'
   rw [hlive] at hl'
   have hf := (h.fix q0 B hB).2 hl'
   by_cases hx : q0 = s
   . rw [hx] at hf; exact absurd hf (hrow _)
   . rw [e2 _ hx]; exact hf
def qZ (st : St) : AV -> Option (Nat × List (List D))
 | .d (.slice sz rows) => some (sz, rows)
 | .nil sz => some (sz, [])
 | .own s => (match find st.heap s with | some (.row _ sz rows _) => some (sz, rows) | _ => none)
 | _ => none
theorem aA.Jj (h : aA cx E st σ a w) {s : Nat} {b : Blk} {w' : World} {d : Option Nat} {u τ : Value} {v : AV} (hd : ∀ e, d = some e -> e < E.nt) (hl : live st.heap s) (hrow : ∀ x, σ s ≠ .pointer x)
 (h1 : w'.os = w.os) (h2 : w'.tape = w.tape) (h3 : w'.output = w.output) (h4 : w.heap.size <= w'.heap.size) (h5 : ∀ k, k < w.heap.size -> home (σ s) ≠ some k -> w'.heap[k]? = w.heap[k]?)
 (hτ : ∀ g, home τ = some g -> home (σ s) = some g \/ w.heap.size <= g)
 (hb : ∀ σ' : Nat -> Value, σ' s = τ -> aB w w' (Own E.O (live st.heap) σ) (Own E.O (live st.heap) σ') -> bW w' E.F E.O (live st.heap) σ' s b)
 (hr : ∀ σ' : Nat -> Value, σ' s = τ -> ag w' E.O (live st.heap) σ' v u) :
 ∃ σ', aA cx E ⟨bD (im s st.slots) d v, (s, b) :: dC s st.heap⟩ σ' (a.put d u) w' := h.Gg hd hl hrow h1 h2 h3 h4 h5 hτ (fun σ' e1 _ hk => hb σ' e1 hk) hr
theorem Hm (hs : aA cx E st σ a w) {x : AV} {sz : Nat} {rows : List (List D)} (h : qZ st x = some (sz, rows)) {u : Value} (hr : ag w E.O (live st.heap) σ x u) :
 ∃ ad c, u = .slice ad rows.length c /\ (∀ r ∈ rows, r.length = sz /\ ∀ d ∈ r, d.one = true) /\
  (rows ≠ [] -> ∃ B off, ad = some ⟨B, off, none⟩ /\ ∀ i r j d, rows[i]? = some r -> r[j]? = some d -> ∃ v, w.cell? ⟨B, off + (i * sz + j), none⟩ = some v /\ Rep w (Own E.O (live st.heap) σ) d v) := by
 unfold qZ at h
 split at h
 . cases h
   cases hr with | d _ _ hr => cases hr with
   | empty => exact ⟨_, _, rfl, fun r hr => by simp at hr, fun hne => absurd rfl hne⟩
   | slice _ _ B off n cap us hn hO hB hc hl h1 h2 =>
    subst hn
    exact ⟨_, _, rfl, hl, fun _ => ⟨B, off, rfl, fun i r j d hi hj => ⟨us i j, by rw [<- Nat.add_assoc]; exact h1 i r j d hi hj, h2 i r j d hi hj⟩⟩⟩
 . cases h; cases hr; exact ⟨_, _, rfl, fun r hr => by simp at hr, fun hne => absurd rfl hne⟩
 . rename_i s
   split at h
   . rename_i e sz' rows' fl hf
     cases h
     cases hr with | own _ hL =>
      obtain ⟨xs, o1, o2, o3, o4, o5⟩ := hs.holds.blk s _ hf
      rcases o1.2 with ⟨e1, e2⟩ | ⟨g, cap, cur, e1, _, e3, e4, _, e6, e7⟩
      . obtain rfl : rows = [] := List.eq_nil_of_length_eq_zero e2
        exact ⟨_, _, e1, o4, fun hne => absurd rfl hne⟩
      . refine ⟨_, _, e1, o4, fun _ => ⟨g, 0, rfl, fun i r j d hi hj => ?_⟩⟩
        obtain ⟨u, hu, hd⟩ := o5 i r j d hi hj
        refine ⟨u, ?_, hd⟩
        rw [<- e7, List.getElem?_take] at hu
        split at hu
        . simp only [World.cell?, e3, Nat.zero_add]; simpa using hu
        . cases hu
   . cases h
 . cases h
theorem mH (P : Program) (w : World) {t ty e : TypeId} {i : TypeInfo} (ht : P.underlying t = some (.slice e)) (hi : P.info? e = some i) {base : Option Addr} {n cap : Nat} (hn : n <= cap) (ad : Option Addr) (c : Nat) :
 (Builtin.append_ #[t, t] ty #[.slice base n cap, .slice ad 0 c]).run P w = .ok (.slice base n cap) w := by
 cases base <;> cases ad <;> simp [Builtin.append_, run_underlying ht, Go.sizeOf, typeInfo, hi, Builtin.lenOf, Builtin.firstCells, hn, loadCells, loadCellsFrom, storeCells]
theorem s7 (hT : aP cx) (hs : aA cx E st σ a w) {t e ty : TypeId} {ei : TI} (hse : cA cx t = some (e, ei)) (hsz : 1 <= ei.size) {x : AV} {rows2 : List (List D)} (hx : qZ st x = some (ei.size, rows2)) {u v : Value} (hr : ag w E.O (live st.heap) σ x u)
 {n : Nat} {xs : List Value} (hown : w.ownsRow 0 e ei.size v n xs) (hb1 : n + rows2.length <= maxLen) (hb2 : (n + rows2.length) * ei.bytes <= 140737488355328) :
 ∃ v' w' news, (Builtin.append_ #[t, t] ty #[v, u]).run cx.P w = .ok v' w' /\ w'.ownsRow 0 e ei.size v' (n + rows2.length) (xs ++ news) /\ w.grownBy w' v.ownBlock /\ (∀ g, home v' = some g -> home v = some g \/ w.heap.size <= g) /\
  (∀ r ∈ rows2, r.length = ei.size /\ ∀ d ∈ r, d.one = true) /\ ∀ i r j d, rows2[i]? = some r -> r[j]? = some d -> ∃ z, news[i * ei.size + j]? = some z /\ Rep w (Own E.O (live st.heap) σ) d z := by
 obtain ⟨ti, ht, hkd, hei⟩ := b9 hse
 obtain ⟨_, _, _, _, t2, t3, _⟩ := hT _ _ ht
 rw [hkd] at t3; obtain rfl := bI t3
 obtain ⟨info, desc, zv, i1, i2, i3, i4, i5, i6, i7, i8, i9, i10⟩ := hT _ _ hei
 obtain ⟨ad, c, rfl, p1, p2⟩ := Hm hs hx hr
 by_cases hne : rows2 = []
 . subst hne
   have hv : ∃ base cap, v = .slice base n cap /\ n <= cap := by
    rcases hown.2 with ⟨rfl, rfl⟩ | ⟨g, cap, cur, rfl, _, _, h, _⟩
    . exact ⟨none, 0, rfl, Nat.le_refl _⟩
    . exact ⟨_, cap, rfl, h⟩
   obtain ⟨base, cap, rfl, hnc⟩ := hv
   refine ⟨_, w, [], mH cx.P w t2 i1 hnc ad c, by simpa using hown, ⟨rfl, rfl, rfl, Nat.le_refl _, fun _ _ _ => rfl⟩, fun g hg => .inl hg, p1, fun i r j d hi => by simp at hi⟩
 . obtain ⟨B, off, rfl, p3⟩ := p2 hne
   let f : Nat -> Value := fun q => (w.cell? ⟨B, off + q, none⟩).getD Go.undef
   have hq : ∀ q, q < rows2.length * ei.size -> ∃ r d, rows2[q / ei.size]? = some r /\ r[q % ei.size]? = some d /\ d.one = true := fun q hq => by
    have h1 : q / ei.size < rows2.length := Nat.div_lt_of_lt_mul (by rw [Nat.mul_comm]; exact hq)
    have h2 := List.getElem?_eq_getElem h1
    have h3 := p1 _ (List.getElem_mem h1)
    have h4 : q % ei.size < (rows2[q / ei.size]).length := by rw [h3.1]; exact Nat.mod_lt _ hsz
    exact ⟨_, _, h2, List.getElem?_eq_getElem h4, h3.2 _ (List.getElem_mem h4)⟩
   have hdm : ∀ q, q / ei.size * ei.size + q % ei.size = q := fun q => by rw [Nat.mul_comm]; exact Nat.div_add_mod q ei.size
   have hcell : ∀ q, q < rows2.length * ei.size -> w.cell? ⟨B, off + q, none⟩ = some (f q) /\ (f q).oneCell' = true := fun q hlt => by
    obtain ⟨r, d, h1, h2, h3⟩ := hq q hlt
    obtain ⟨z, hz, hd⟩ := p3 _ r _ d h1 h2
    rw [hdm] at hz
    have : f q = z := by simp [f, hz]
    rw [this]; exact ⟨hz, hd.iH h3⟩
   have hnl : ((List.range (rows2.length * ei.size)).map f).length = rows2.length * ei.size := by simp
   have hnews : ∀ j u, ((List.range (rows2.length * ei.size)).map f)[j]? = some u -> w.cell? ((⟨B, off, none⟩ : Addr).add j) = some u := fun j u hj => by
    have hlt : j < rows2.length * ei.size := by have := (List.getElem?_eq_some_iff.1 hj).1; simpa using this
    rw [dG]
    have : f j = u := by simpa [hlt] using hj
    rw [<- this]; exact (hcell j hlt).1
   have hone : ∀ u ∈ (List.range (rows2.length * ei.size)).map f, u.oneCell' = true := fun u hu => by
    obtain ⟨q, hq, rfl⟩ := List.mem_map.1 hu
    exact (hcell q (by simpa using hq)).2
   obtain ⟨v', w', r1, r2, r3, _⟩ := run_append_own (P := cx.P) w 0 t ty e info zv ei.size ei.bytes t2 i1 i6 i4 i5 (by rw [i7, <- i8]) hsz v n xs hown ⟨B, off, none⟩ rows2.length c _ hnl hnews hone hb1 hb2 (Nat.zero_le _)
   have hpos : 0 < rows2.length := List.length_pos_iff.2 hne
   refine ⟨v', w', _, r1, r2, r3, fun g hg => ?_, p1, fun i r j d hi hj => ?_⟩
   . have hm63 : n + rows2.length <= 9223372036854775807 := by simpa [maxLen] using hb1
     rcases hown.2 with ⟨rfl, rfl⟩ | ⟨g0, cap, cur, rfl, _, hg0, hnc, _, hcs, _⟩
     . have := run_append_nil (P := cx.P) w t ty e info zv t2 i1 i6 ⟨B, off, none⟩ rows2.length c _ (by rw [i4]; exact hnl) hnews hpos (by omega) (by rw [i5]; rw [Nat.zero_add] at hb2; omega)
       rw [this] at r1; cases r1; cases hg; exact .inr (Nat.le_refl _)
     . by_cases hroom : n + rows2.length <= cap
       . have := run_append_room (P := cx.P) w t ty e info t2 i1 g0 n cap cur hg0 ⟨B, off, none⟩ rows2.length c _ (by rw [i4]; exact hnl) hnews hone hroom (by rw [hnl, hcs, i4, <- Nat.add_mul]; exact Nat.mul_le_mul_right _ hroom)
         rw [this] at r1; cases r1; exact .inl hg
       . have := run_append_grow (P := cx.P) w t ty e info zv t2 i1 i6 ⟨g0, 0, none⟩ n cap xs (by rw [i4]; exact hown.1) (hown.cells (g := g0) rfl) ⟨B, off, none⟩ rows2.length c _ (by rw [i4]; exact hnl) hnews (by omega) (by omega) (by rw [i5]; exact growslice_fits (by omega) hb2)
         rw [this] at r1; cases r1; cases hg; exact .inr (Nat.le_refl _)
   . obtain ⟨z, hz, hd⟩ := p3 i r j d hi hj
     have hlt : i * ei.size + j < rows2.length * ei.size := by
      have h1 := (List.getElem?_eq_some_iff.1 hi).1
      have h2 := (List.getElem?_eq_some_iff.1 hj).1
      rw [(p1 r (List.mem_of_getElem? hi)).1] at h2
      have : (i + 1) * ei.size <= rows2.length * ei.size := Nat.mul_le_mul_right _ h1
      rw [Nat.add_mul] at this; omega
     refine ⟨z, ?_, hd⟩
     have : f (i * ei.size + j) = z := by simp [f, hz]
     simp [hlt, this]
def uo (cx : Cx) (st : St) (d : Option Nat) (t : TypeId) (s x : AV) (k : AV -> List (Nat × AV) -> List (Nat × Blk) -> Prop) : Prop :=
 match cA cx t with
 | some (e, ei) => (match Nat.ble 1 ei.size, qZ st x with
  | true, some (sz, rows2) => (match Nat.beq sz ei.size with
   | true => (match s with
    | .own s => (match find st.heap s with
     | some (.row e' sz' rows _) => (match Nat.beq e e', Nat.beq ei.size sz' with
      | true, true => rows.length + rows2.length <= 9223372036854775807 /\ (rows.length + rows2.length) * ei.bytes <= 140737488355328 /\ k (.own s) (im s st.slots) ((s, .row e' sz' (rows ++ rows2)) :: dC s st.heap)
      | _, _ => False)
     | _ => False)
    | .nil _ => (match d with
     | some d => (match find st.heap d with
      | none => rows2.length <= 9223372036854775807 /\ rows2.length * ei.bytes <= 140737488355328 /\ k (.own d) st.slots ((d, .row e ei.size rows2) :: st.heap)
      | some _ => False)
     | none => False)
    | _ => False)
   | false => False)
  | _, _ => False)
 | none => False
theorem rQ {w w' : World} {O O' : Nat -> Prop} {size : Nat} {rows rows2 : List (List D)} {xs news : List Value} (hx : xs.length = rows.length * size) (hk : aB w w' O O')
 (h1 : ∀ i r j d, rows[i]? = some r -> r[j]? = some d -> ∃ u, xs[i * size + j]? = some u /\ Rep w O d u) (h2 : ∀ i r j d, rows2[i]? = some r -> r[j]? = some d -> ∃ u, news[i * size + j]? = some u /\ Rep w O d u)
 (i : Nat) (r : List D) (j : Nat) (d : D) (hi : (rows ++ rows2)[i]? = some r) (hj : r[j]? = some d) : ∃ u, (xs ++ news)[i * size + j]? = some u /\ Rep w' O' d u := by
 by_cases hlt : i < rows.length
 . rw [List.getElem?_append_left hlt] at hi
   obtain ⟨u, hu, hd⟩ := h1 i r j d hi hj
   refine ⟨u, ?_, hd.mono hk⟩
   rw [List.getElem?_append_left (List.getElem?_eq_some_iff.1 hu).1]; exact hu
 . rw [List.getElem?_append_right (by omega)] at hi
   obtain ⟨u, hu, hd⟩ := h2 _ r j d hi hj
   refine ⟨u, ?_, hd.mono hk⟩
   obtain ⟨q, rfl⟩ : ∃ q, i = rows.length + q := ⟨i - rows.length, by omega⟩
   rw [List.getElem?_append_right (by rw [hx, Nat.add_mul]; omega), hx, Nat.add_mul]
   rw [show rows.length * size + q * size + j - rows.length * size = q * size + j by omega]
   rw [show rows.length + q - rows.length = q by omega] at hu
   exact hu
theorem Ci (hT : aP cx) {o : Oper} {s x : Operand} {t : TypeId} (ho : o.op = .call { callee := .builtin .append, args := #[s, x], argTypes := #[t, t] }) {k : AV -> List (Nat × AV) -> List (Nat × Blk) -> Prop}
 (h : uo cx st o.dst t (st.ev cx s) (iV cx t (st.ev cx x)) k) : ∃ v sl hp, oh cx o st ⟨bD sl o.dst v, hp⟩ /\ k v sl hp := by
 have hexec : ∀ (a : Act) (w : World) {z : Value} {w' : World}, (Builtin.append_ #[t, t] o.type #[a.eval s, a.eval x]).run cx.P w = .ok z w' -> (execOp a.eval o).run cx.P w = .ok (.value z) w' := fun a w z w' hh => by
  simp [execOp, ho, resolve, invoke, builtin, hh]
 unfold uo at h
 split at h
 . rename_i e ei hse
   split at h
   . rename_i sz rows2 hsz hsrc
     have hsz : 1 <= ei.size := Nat.le_of_ble_eq_true hsz
     split at h
     . rename_i hsz2
       obtain rfl : sz = ei.size := Nat.eq_of_beq_eq_true hsz2
       split at h
       . rename_i site hsv
         split at h
         . rename_i e' sz' rows fl0 hf
           split at h
           . rename_i c1 c2
             obtain rfl : e = e' := Nat.eq_of_beq_eq_true c1
             obtain rfl : ei.size = sz' := Nat.eq_of_beq_eq_true c2
             obtain ⟨b1, b2, hk⟩ := h
             refine ⟨_, _, _, fun E a w Q hd ⟨σ, hs⟩ => ?_, hk⟩
             have hrs := hs.ev (St.le.refl st) s; rw [hsv] at hrs
             have hrx := gi (cx := cx) (t := t) (hs.ev (St.le.refl st) x)
             obtain ⟨xs, o1, o2, o3, o4, o5⟩ := hs.holds.blk site _ hf
             have hl : live st.heap site := au.2 ⟨_, hf⟩
             obtain ⟨v', w', news, r1, r2, r3, r4, r5, r6⟩ := s7 (ty := o.type) hT hs hse hsz hsrc hrx o1 (by simpa [maxLen] using b1) b2
             have hsv' : a.eval s = σ site := by generalize a.eval s = u at hrs; cases hrs; rfl
             rw [<- hsv'] at r1
             simp only [Oper.wp, hexec a w r1, Oper.upon]
             refine hs.Jj (τ := v') hd hl (fun aa e => by rcases o1.2 with ⟨e', _⟩ | ⟨_, _, _, e', _⟩ <;> (rw [e'] at e; cases e)) r3.os r3.tape r3.output r3.size (fun q hq hne => r3.block q hq fun e => hne ?_) r4 (fun σ' e1 hkeep => ?_) (fun σ' e1 => ?_)
             . have : (σ site).ownBlock = some q := e.symm
               generalize σ site = z at this ⊢
               cases z <;> simp [Value.ownBlock] at this
               rename_i aa _ _; cases aa <;> simp [Value.ownBlock] at this
               simp [home, this]
             . refine ⟨xs ++ news, by rw [e1, List.length_append]; exact r2, fun b hb => ?_, ⟨o3.1, fun e => by cases e⟩, fun r hr => ?_, rQ (by rw [o1.1]) hkeep o5 r6⟩
               . rw [e1] at hb
                 rcases r4 b hb with hb | hb
                 . exact o2 b hb
                 . exact hs.new b (Nat.le_trans hs.frame.size hb)
               . rcases List.mem_append.1 hr with hr | hr
                 . exact o4 r hr
                 . exact r5 r hr
             . have := ag.own (w := w') (O := E.O) (σ := σ') site hl
               rw [e1] at this; exact this
           . exact h.elim
         . exact h.elim
       . rename_i z0 hsv
         split at h
         . rename_i d hd0
           split at h
           . rename_i hf
             obtain ⟨b1, b2, hk⟩ := h
             refine ⟨_, _, _, fun E a w Q hd ⟨σ, hs⟩ => ?_, hk⟩
             have hrs := hs.ev (St.le.refl st) s; rw [hsv] at hrs
             have hrx := gi (cx := cx) (t := t) (hs.ev (St.le.refl st) x)
             have hsv' : a.eval s = .slice none 0 0 := by generalize a.eval s = u at hrs; cases hrs; rfl
             obtain ⟨v', w', news, r1, r2, r3, r4, r5, r6⟩ := s7 (ty := o.type) hT hs hse hsz hsrc hrx (World.ownsRow_nil w 0 e ei.size) (by simpa [maxLen] using b1) (by simpa using b2)
             rw [<- hsv'] at r1
             simp only [Oper.wp, hexec a w r1, Oper.upon]
             have hn : ¬ live st.heap d := by unfold live; rw [hf]; simp
             let σ' : Nat -> Value := fun x => if x = d then v' else σ x
             have e1 : σ' d = v' := if_pos rfl
             have e2 : ∀ x, live st.heap x -> σ' x = σ x := fun x hl => if_neg fun (e : x = d) => hn (e ▸ hl)
             have hbel : Below w.heap.size w w' := ov r3
             have hnew : ∀ g, home v' = some g -> w.heap.size <= g := fun g hg => by
              rcases r4 g hg with h | h
              . cases h
              . exact h
             have hkeep : aB w w' (Own E.O (live st.heap) σ) (Own E.O (live ([(d, Blk.row e ei.size rows2)] ++ st.heap)) σ') := by
              refine ⟨hbel.size, fun x _ hx => hbel.block x hx, fun x hno hx ho => ?_⟩
              rcases ho with ho | ⟨y, hl, e⟩
              . exact hno (.inl ho)
              . rcases bO.1 hl with hl | hl
                . rw [bX.1 hl, e1] at e; have := hnew x e; omega
                . rw [e2 y hl] at e; exact hno (.inr ⟨y, hl, e⟩)
             have hld : live ([(d, Blk.row e ei.size rows2)] ++ st.heap) d := bO.2 (.inl (bX.2 rfl))
             have hfx : ∀ q0 B, E.fix q0 = some B -> ¬ live [(d, Blk.row e ei.size rows2)] q0 := fun q0 B hB hl => by
              have h1 := (hs.fix q0 B hB).1
              have h2 : d < E.nt := hd d (by assumption)
              have h3 : q0 = d := bX.1 hl
              omega
             refine ⟨σ', hs.grow (bs := [(d, Blk.row e ei.size rows2)]) (v := .own d) hd e2 hbel hfx (fun x g hl e => ?_) (fun x y g hl hl' _ _ => (bX.1 hl).trans (bX.1 hl').symm) (fun x b hb => ?_) ?_⟩
             . rw [bX.1 hl, e1] at e; exact hnew g e
             . have hl := bX.1 (au.2 ⟨b, hb⟩)
               subst hl
               rw [aC] at hb; cases hb
               refine ⟨news, by rw [e1]; simpa using r2, fun b hb => ?_, ⟨hsz, fun e => by cases e⟩, r5, fun i r j d hi hj => ?_⟩
               . rw [e1] at hb; exact hs.new b (Nat.le_trans hs.frame.size (hnew b hb))
               . obtain ⟨u, hu, hd⟩ := r6 i r j d hi hj
                 exact ⟨u, hu, hd.mono hkeep⟩
             . have := ag.own (w := w') (O := E.O) (σ := σ') d hld
               rw [e1] at this; exact this
           . exact h.elim
         . exact h.elim
       . exact h.elim
     . exact h.elim
   . exact h.elim
 . exact h.elim
end
end NQ

namespace NQ
open Go Go.RowKit
section
variable {cx : Cx} {st : St} {E : Env} {σ : Nat -> Value} {a : Act} {w : World}
def qQ (cx : Cx) (st : St) (t : TypeId) (m key v : AV) (k : List (Nat × Blk) -> Prop) : Prop :=
 match m, key, cx.ty t with
 | .omap s, .agg cs, some ⟨_, _, .map kt _, _⟩ => (match find st.heap s, bu dP cs, cx.eqT kt, fq v with
  | some (.kmap mm), some kc, some ks, some x => (match dJ ks kc with
   | true => ∃ mm', qO ks kc x mm = some mm' /\ k ((s, .kmap mm') :: st.heap)
   | false => False)
  | _, _, _, _ => False)
 | .omap s, .d (.int ki n), some ⟨_, _, .map kt _, _⟩ => (match find st.heap s, wA cx kt (.int ki n), fq v with
  | some (.kmap mm), true, some x => ∃ mm', qX (.int ki n) x mm = some mm' /\ k ((s, .kmap mm') :: st.heap)
  | _, _, _ => False)
 | .omap s, .d (.str b), some ⟨_, _, .map kt et, _⟩ => (match find st.heap s, isStr cx kt, fq v with
  | some (.smap mm), true, some x => k ((s, .smap (cN b x mm)) :: st.heap)
  | _, _, _ => False)
 | _, _, _ => False
theorem oY {b : List UInt8} {x : D} : ∀ {m : List (List UInt8 × D)}, cJ b m = none -> cN b x m = m ++ [(b, x)]
 | [], _ => rfl
 | (k, v) :: t, h => by
  simp only [cJ] at h
  split at h
  . cases h
  . rename_i hne; simp [cN, hne, oY h]
theorem xS (hT : aP cx) {o : Oper} {t : TypeId} {m key v : Operand} (ho : o.op = .mapUpdate t m key v \/ o.op = .insert t m key v) {s : Nat} (hm : st.ev cx m = .omap s) {sz by' : Nat} {kt et : TypeId} {zero : List AV} (ht : cx.ty t = some ⟨sz, by', .map kt et, zero⟩)
 {mm mm' : List (List D × D)} (hf : find st.heap s = some (.kmap mm)) {eq : List D -> Option Bool} {kc : List D} {x : D} (hput : gS eq kc x mm = some mm') (hfree : fq (st.ev cx v) = some x)
 (hkey : ∀ (E : Env) σ a w, aA cx E st σ a w -> iS cx.P kt kc eq (a.eval key)) : oh cx o st ⟨bD st.slots o.dst (.tuple []), (s, .kmap mm') :: st.heap⟩ := by
 intro E a w Q hd ⟨σ, hs⟩
 obtain ⟨_, _, _, _, t2, t3, _⟩ := hT _ _ ht
 have t3 := iF t3
 subst t3
 have hrm := hs.ev (St.le.refl st) m; rw [hm] at hrm
 have hrv := eU hfree (hs.ev (St.le.refl st) v)
 obtain ⟨g, es, clock, e1, e2, e3, e4, e5⟩ := hs.holds.blk s _ hf
 have hl : live st.heap s := au.2 ⟨_, hf⟩
 have hmv : a.eval m = .map (some g) := by generalize a.eval m = u at hrm; cases hrm; exact e1
 have hk := hkey E σ a w hs
 have hchk := hk.chk false w
 have hget : (getObj g).run cx.P w = .ok (.map es clock) w := MapKept.run_getObj_map e3
 have hset : ∀ ob, (setObj g ob).run cx.P w = .ok () { w with heap := w.heap.setIfInBounds g ob } := fun ob => MapKept.run_setObj_map ob e3
 have hlt : g < w.heap.size := (Array.getElem?_eq_some_iff.1 e3).1
 have hrt : ∀ {w : World} {O L : Nat -> Prop} {σ : Nat -> Value}, ag w O L σ (.tuple []) Go.undef := .tuple [] #[] rfl fun j c hj => by simp at hj
 obtain ⟨r, hr⟩ := qg hput
 have hexec : ∀ {w'}, (Instr.mapUpdate t (.map (some g)) (a.eval key) (a.eval v)).run cx.P w = .ok () w' -> (execOp a.eval o).run cx.P w = .ok .skip w' := fun hh => by
  rcases ho with ho | ho <;> simp [execOp, ho, hmv, hh]
 have fin : ∀ (es' : Array MapEntry) (clock' : Nat), (execOp a.eval o).run cx.P w = .ok .skip { w with heap := w.heap.setIfInBounds g (.map es' clock') } ->
     oo (Rep w (Own E.O (live st.heap) σ)) mm' es' ->
     o.wp cx.P a w (fun a' w' => Sim cx E ⟨bD st.slots o.dst (.tuple []), (s, .kmap mm') :: st.heap⟩ a' w') Q := by
  intro es' clock' hrun hmv'
  simp only [Oper.wp, hrun, Oper.upon]
  refine ⟨σ, hs.write hd hl (by rw [e1]; rfl) rfl rfl rfl (by simp) (fun q hq => by simp [Ne.symm hq]) (fun hk => ?_) (fun _ => hrt)⟩
  exact ⟨g, es', clock', e1, e2, by simp [hlt], hmv'.mono fun _ _ h => h.mono hk⟩
 rcases hk.find w _ mm es.toList r (by simpa using e4) (fun j k v hj => by
  obtain ⟨e, he, q⟩ := e5 j k v hj
  exact ⟨e, by rw [Array.getElem?_toList]; exact he, q⟩) hr with ⟨rfl, g2⟩ | ⟨j, k', v', e, rfl, g1, g3, g2, g4, g5, g6⟩
 . rw [nf hr] at hput
   cases hput
   refine fin (es.push ⟨a.eval key, a.eval v, clock⟩) (clock + 1) (hexec ?_) ⟨by simp [e4], fun j k v' hj => ?_⟩
   . simp [Instr.mapUpdate, run_underlying t2, hget, hchk, g2, hset]
   . by_cases hlt : j < mm.length
     . rw [List.getElem?_append_left hlt] at hj
       obtain ⟨e, he, r⟩ := e5 j k v' hj
       refine ⟨e, ?_, r⟩
       rw [Array.getElem?_push, if_neg (by omega)]; exact he
     . have : j = mm.length := by have := (List.getElem?_eq_some_iff.1 hj).1; simp at this; omega
       subst this
       rw [List.getElem?_append_right (Nat.le_refl _)] at hj
       simp at hj
       obtain ⟨rfl, rfl⟩ := hj
       exact ⟨⟨a.eval key, a.eval v, clock⟩, by rw [<- e4]; simp, hk.key, hrv⟩
 . rw [g6 x] at hput
   cases hput
   have hese : es[j]? = some e := by rw [<- Array.getElem?_toList]; exact g3
   have hj0 : j < es.size := (Array.getElem?_eq_some_iff.1 hese).1
   have hstay : (Instr.keyThatStays (((es[j]?).map (·.key)).getD (a.eval key)) (a.eval key)).run cx.P w = .ok (a.eval key) w := by
    simp [Instr.keyThatStays, hese, g5]
   refine fin (es.modify j fun e => { e with key := a.eval key, val := a.eval v }) clock (hexec ?_) ⟨by simp [e4], fun i k v' hi => ?_⟩
   . simp only [Instr.mapUpdate, Sem.run_bind, run_underlying t2, Result.andThen, hget, hchk, g2, hstay, hset]
   . rw [List.getElem?_set] at hi
     rw [Array.getElem?_modify]
     split at hi
     . rename_i hij; subst hij
       try rw [if_pos (by omega)] at hi
       cases hi
       exact ⟨_, by rw [if_pos rfl, hese]; rfl, hk.key, hrv⟩
     . rename_i hij
       obtain ⟨e', he', r⟩ := e5 i k v' hi
       exact ⟨e', by rw [if_neg hij]; exact he', r⟩
theorem vt (hT : aP cx) {o : Oper} {t : TypeId} {m key v : Operand} (ho : o.op = .mapUpdate t m key v \/ o.op = .insert t m key v) {k : List (Nat × Blk) -> Prop} (h : qQ cx st t (st.ev cx m) (st.ev cx key) (st.ev cx v) k) :
 ∃ hp, oh cx o st ⟨bD st.slots o.dst (.tuple []), hp⟩ /\ k hp := by
 unfold qQ at h
 split at h
 . rename_i s cs sz by' kt et zero hm hkey ht
   split at h
   . rename_i mm kc ks x hf hkc hks hfree
     split at h
     . rename_i hfit
       obtain ⟨mm', hput, h⟩ := h
       have heq := cx.eqOk kt ks hks
       rw [uG] at hput
       refine ⟨_, xS hT ho hm ht hf hput hfree fun E σ a w hs => iS.struct heq hfit ?_, h⟩
       have hrk := hs.ev (St.le.refl st) key; rw [hkey] at hrk
       generalize a.eval key = u at hrk
       cases hrk with | agg _ vs hl hh =>
        obtain ⟨l1, l2⟩ := bf hkc
        obtain ⟨f1, f2⟩ := pU hfit
        refine .inr ⟨vs, rfl, by rw [hl, l1], fun j d hj => ?_⟩
        obtain ⟨c, hc, hd⟩ := l2 j d hj
        exact lh (eV hd (hh j c hc)) (f2 d (List.mem_of_getElem? hj))
     . exact h.elim
   . exact h.elim
 . rename_i s ki n sz by' kt et zero hm hkey ht
   split at h
   . rename_i mm x hf hkt hfree
     obtain ⟨mm', hput, h⟩ := h
     rw [uQ] at hput
     obtain ⟨desc, hd1, hd2, hd3⟩ := xP hT hkt
     refine ⟨_, xS hT ho hm ht hf hput hfree fun E σ a w hs => iS.flat hd1 hd2 ?_, h⟩
     have hrk := hs.ev (St.le.refl st) key; rw [hkey] at hrk
     generalize a.eval key = u at hrk
     cases hrk with | d _ _ hri => exact lh hri hd3
   . exact h.elim
 . rename_i s b sz by' kt et zero hm hkey ht
   split at h
   . rename_i mm x hf hstr hfree
     refine ⟨_, fun E a w Q hd ⟨σ, hs⟩ => ?_, h⟩
     obtain ⟨_, _, _, _, t2, t3, _⟩ := hT _ _ ht
     have t3 := iF t3
     subst t3
     obtain ⟨ki, hk1, hk2⟩ := ku hstr
     obtain ⟨_, _, _, _, k2, k3, _⟩ := hT _ _ hk1
     rw [hk2] at k3; obtain rfl := dR k3
     have hrm := hs.ev (St.le.refl st) m; rw [hm] at hrm
     have hrk := hs.ev (St.le.refl st) key; rw [hkey] at hrk
     have hrv := eU hfree (hs.ev (St.le.refl st) v)
     obtain ⟨bb, hbb, rfl⟩ := hrk.str
     obtain ⟨g, es, clock, e1, e2, e3, e4, e5⟩ := hs.holds.blk s _ hf
     have hl : live st.heap s := au.2 ⟨_, hf⟩
     have hmv : a.eval m = .map (some g) := by generalize a.eval m = u at hrm; cases hrm; exact e1
     have hchk : (Instr.checkKey false 10000 kt (.string bb)).run cx.P w = .ok () w := MapKept.run_checkKey (n := 9999) k2 (by simp [MapKept.IsKey]) _
     have hget : (getObj g).run cx.P w = .ok (.map es clock) w := MapKept.run_getObj_map e3
     have hset : ∀ ob, (setObj g ob).run cx.P w = .ok () { w with heap := w.heap.setIfInBounds g ob } := fun ob => MapKept.run_setObj_map ob e3
     have hlt : g < w.heap.size := (Array.getElem?_eq_some_iff.1 e3).1
     have hrt : ∀ {w : World} {O L : Nat -> Prop} {σ : Nat -> Value}, ag w O L σ (.tuple []) Go.undef := .tuple [] #[] rfl fun j c hj => by simp at hj
     have hesl : ∀ (j : Nat) k v, mm[j]? = some (k, v) -> ∃ e, es.toList[j]? = some e /\ Rep w (Own E.O (live st.heap) σ) (.str k) e.key /\ Rep w (Own E.O (live st.heap) σ) v e.val := fun j k v hj => by
      obtain ⟨e, he, r⟩ := e5 j k v hj
      exact ⟨e, by rw [Array.getElem?_toList]; exact he, r⟩
     have fin : ∀ (es' : Array MapEntry) (clock' : Nat), (execOp a.eval o).run cx.P w = .ok .skip { w with heap := w.heap.setIfInBounds g (.map es' clock') } ->
         (es'.size = (cN bb.data.toList x mm).length /\ ∀ (j : Nat) k v, (cN bb.data.toList x mm)[j]? = some (k, v) -> ∃ e, es'[j]? = some e /\ Rep w (Own E.O (live st.heap) σ) (.str k) e.key /\ Rep w (Own E.O (live st.heap) σ) v e.val) ->
         o.wp cx.P a w (fun a' w' => Sim cx E ⟨bD st.slots o.dst (.tuple []), (s, .smap (cN bb.data.toList x mm)) :: st.heap⟩ a' w') Q := by
      intro es' clock' hrun ⟨f1, f2⟩
      simp only [Oper.wp, hrun, Oper.upon]
      refine ⟨σ, hs.write hd hl (by rw [e1]; rfl) rfl rfl rfl (by simp) (fun q hq => by simp [Ne.symm hq]) (fun hk => ?_) (fun _ => hrt)⟩
      refine ⟨g, es', clock', e1, e2, by simp [hlt], f1, fun j k v hj => ?_⟩
      obtain ⟨e, he, q1, q2⟩ := f2 j k v hj
      exact ⟨e, he, q1.mono hk, q2.mono hk⟩
     have hexec : ∀ {w'}, (Instr.mapUpdate t (.map (some g)) (.string bb) (a.eval v)).run cx.P w = .ok () w' -> (execOp a.eval o).run cx.P w = .ok .skip w' := fun hh => by
      rcases ho with ho | ho <;> simp [execOp, ho, hmv, hbb, hh]
     rcases tX (w := w) (O := E.O) (L := live st.heap) (σ := σ) bb mm es.toList 0 (by simpa using e4) hesl with ⟨g1, g2⟩ | ⟨j, v0, e, g1, g2, g3, g4, g5, g6, g7⟩
     . refine fin (es.push ⟨.string bb, a.eval v, clock⟩) (clock + 1) (hexec ?_) ⟨?_, fun j k v hj => ?_⟩
       . simp [Instr.mapUpdate, run_underlying t2, hget, hchk, MapKept.run_findKey k2 g2, hset]
       . rw [oY g1]; simp [e4]
       . rw [oY g1] at hj
         by_cases hlt : j < mm.length
         . rw [List.getElem?_append_left hlt] at hj
           obtain ⟨e, he, r⟩ := e5 j k v hj
           refine ⟨e, ?_, r⟩
           rw [Array.getElem?_push, if_neg (by omega)]; exact he
         . have : j = mm.length := by have := (List.getElem?_eq_some_iff.1 hj).1; simp at this; omega
           subst this
           rw [List.getElem?_append_right (Nat.le_refl _)] at hj
           simp at hj
           obtain ⟨rfl, rfl⟩ := hj
           exact ⟨⟨.string bb, a.eval _, clock⟩, by rw [<- e4]; simp, .str _ _ rfl, hrv⟩
     . have hj0 : j < es.size := by have := (List.getElem?_eq_some_iff.1 g3).1; simpa using this
       have hese : es[j]? = some e := by rw [<- Array.getElem?_toList]; exact g3
       have hstay : (Instr.keyThatStays (((es[j]?).map (·.key)).getD (.string bb)) (.string bb)).run cx.P w = .ok (.string bb) w := by
        have : Instr.sameBits 10000 (.string bb) (.string bb) = true := (MapKept.bytes_beq bb bb).2 rfl
        simp [Instr.keyThatStays, hese, g6, this]
       refine fin (es.modify j fun e => { e with key := .string bb, val := a.eval v }) clock (hexec ?_) ⟨?_, fun i k v' hi => ?_⟩
       . have g2' : Instr.findNow .string (.string bb) es.toList 0 = some (some (j, e.val)) := by rw [g2]; simp
         simp only [Instr.mapUpdate, Sem.run_bind, run_underlying t2, Result.andThen, hget, hchk, MapKept.run_findKey k2 g2', hstay, hset]
       . rw [g7]; simp [e4]
       . rw [g7, List.getElem?_set] at hi
         rw [Array.getElem?_modify]
         split at hi
         . rename_i hij; subst hij
           have hjm : j < mm.length := by omega
           try rw [if_pos hjm] at hi
           cases hi
           exact ⟨_, by rw [if_pos rfl, hese]; rfl, .str _ _ rfl, hrv⟩
         . rename_i hij
           obtain ⟨e', he', r⟩ := e5 i k v' hi
           exact ⟨e', by rw [if_neg hij]; exact he', r⟩
   . exact h.elim
 . exact h.elim
end
end NQ

namespace NQ
open Go Go.RowKit
def eG (s : Nat) : List (Nat × Blk) -> List (Nat × Blk)
 | [] => []
 | (k, b) :: t => (match Nat.beq k s with | true => eG s t | false => (k, b) :: eG s t)
theorem lH {s x : Nat} : ∀ {h : List (Nat × Blk)}, find (eG s h) x = if x = s then none else find h x
 | [] => by simp [eG, find]
 | (k, b) :: t => by
  simp only [eG]
  by_cases e : k = s
  . subst e
    simp only [show Nat.beq k k = true by simp]
    rw [lH (h := t)]
    by_cases hx : x = k
    . rw [if_pos hx, if_pos hx]
    . rw [if_neg hx, if_neg hx, aI _ _ (Ne.symm hx)]
  . have hb : Nat.beq k s = false := by rw [<- Bool.not_eq_true]; exact fun h => e (Nat.eq_of_beq_eq_true h)
    simp only [hb]
    by_cases hx : k = x
    . subst hx; rw [aC, if_neg e, aC]
    . rw [aI _ _ hx, aI _ _ hx, lH (h := t)]
def jP (s : Nat) (x : D) : AV -> AV
 | .own s' => (match Nat.beq s s' with | true => .d x | false => .own s')
 | .rptr s' a b c => (match Nat.beq s s' with | true => .undef | false => .rptr s' a b c)
 | .ptr s' o => (match Nat.beq s s' with | true => (match o with | 0 => .d x | _ + 1 => .undef) | false => .ptr s' o)
 | .omap s' => (match Nat.beq s s' with | true => .d x | false => .omap s')
 | .d y => .d y
 | .nil z => .nil z
 | .maybe p => .maybe p
 | _ => .undef
def uB (s : Nat) (x : D) : AV -> AV
 | .agg cs => .agg (cs.map (jP s x))
 | .fn f a b => .fn f (a.map (jP s x)) (b.map (jP s x))
 | v => jP s x v
def frz (s : Nat) (x : D) : AV -> AV
 | .tuple vs => .tuple (vs.map (uB s x))
 | v => uB s x v
def kr (s : Nat) (x : D) : Blk -> Blk
 | .box cells => .box (cells.map (jP s x))
 | .arow e z rows => .arow e z (rows.map fun r => r.map (uB s x))
 | b => b
def yq (p : List UInt8 × D) : List D × D := ([.tuple [.str p.1]], p.2)
def St.freeze (st : St) (s : Nat) : St :=
 match find st.heap s with
 | some (.row _ sz rows _) => ⟨st.slots.map fun p => (p.1, frz s (.slice sz rows) p.2), (eG s st.heap).map fun p => (p.1, kr s (.slice sz rows) p.2)⟩
 | some (.kmap m) => ⟨st.slots.map fun p => (p.1, frz s (.kmap m) p.2), (eG s st.heap).map fun p => (p.1, kr s (.kmap m) p.2)⟩
 | some (.smap m) => ⟨st.slots.map fun p => (p.1, frz s (.kmap (m.map yq)) p.2), (eG s st.heap).map fun p => (p.1, kr s (.kmap (m.map yq)) p.2)⟩
 | some (.box cells) => (match bu dP cells with | some ds => ⟨st.slots.map fun p => (p.1, frz s (.ptr ds) p.2), (eG s st.heap).map fun p => (p.1, kr s (.ptr ds) p.2)⟩ | none => st)
 | _ => st
def St.aN (st : St) : List Nat -> St
 | [] => st
 | s :: t => (st.freeze s).aN t
section
variable {w : World} {O L : Nat -> Prop} {σ : Nat -> Value} {s : Nat} {x : D}
theorem dS : aB w w (Own O L σ) (Own O (fun y => L y /\ y ≠ s) σ) := aB.less fun b hb => by
 rcases hb with hb | ⟨y, ⟨hy, _⟩, e⟩
 . exact .inl hb
 . exact .inr ⟨y, hy, e⟩
theorem mh (hx : Rep w (Own O (fun y => L y /\ y ≠ s) σ) x (σ s)) {c : AV} {v : Value} (h : ag w O L σ c v) : ag w O (fun y => L y /\ y ≠ s) σ (jP s x c) v := by
 cases h with
 | undef => exact .undef _
 | d y v h => exact .d _ _ (h.mono dS)
 | nil => exact .nil _
 | maybe p b h => exact .maybe p b h
 | ptr s' off b hL h =>
  simp only [jP]; split
  . rename_i e
    obtain rfl : s = s' := Nat.eq_of_beq_eq_true e
    cases off with
    | zero => rw [h] at hx; exact .d _ _ hx
    | succ => exact .undef _
  . rename_i e; exact .ptr _ _ b ⟨hL, qi e⟩ h
 | own s' hL =>
  simp only [jP]; split
  . rename_i e; obtain rfl : s = s' := Nat.eq_of_beq_eq_true e; exact .d _ _ hx
  . rename_i e; exact .own _ ⟨hL, qi e⟩
 | rptr s' size i off b n cap hL h => simp only [jP]; split; exact .undef _; rename_i e; exact .rptr _ _ _ _ b n cap ⟨hL, qi e⟩ h
 | omap s' hL =>
  simp only [jP]; split
  . rename_i e; obtain rfl : s = s' := Nat.eq_of_beq_eq_true e; exact .d _ _ hx
  . rename_i e; exact .omap _ ⟨hL, qi e⟩
 | agg => exact .undef _
 | tuple => exact .undef _
 | fn => exact .undef _
theorem dQ {f : AV -> AV} {cs : List AV} {vs : Array Value} {R R' : AV -> Value -> Prop} (hf : ∀ c v, R c v -> R' (f c) v) (h : ∀ j c, cs[j]? = some c -> R c (vs.getD j Go.undef)) (j : Nat) (c : AV) (hj : (cs.map f)[j]? = some c) : R' c (vs.getD j Go.undef) := by
 rw [List.getElem?_map] at hj
 cases hc : cs[j]? with
 | none => rw [hc] at hj; cases hj
 | some y => rw [hc] at hj; cases hj; exact hf _ _ (h j y hc)
theorem sm (hx : Rep w (Own O (fun y => L y /\ y ≠ s) σ) x (σ s)) {c : AV} {v : Value} (h : ag w O L σ c v) : ag w O (fun y => L y /\ y ≠ s) σ (uB s x c) v := by
 cases c with
 | agg cs => cases h with | agg _ vs hl hh => exact .agg _ _ (by simpa using hl) (dQ (fun c v => mh hx) hh)
 | fn f a b => cases h with | fn _ _ _ xs vs hxs hl h1 h2 => exact .fn _ _ _ _ _ (by simpa using hxs) (by simpa using hl) (dQ (fun c v => mh hx) h1) (dQ (fun c v => mh hx) h2)
 | _ => exact mh hx h
theorem GL (hx : Rep w (Own O (fun y => L y /\ y ≠ s) σ) x (σ s)) {c : AV} {v : Value} (h : ag w O L σ c v) : ag w O (fun y => L y /\ y ≠ s) σ (frz s x c) v := by
 cases c with
 | tuple vs => cases h with | tuple _ us hl hh => exact .tuple _ _ (by simpa using hl) (dQ (fun c v => sm hx) hh)
 | _ => exact sm hx h
theorem xC (h1 : x.one = true) {c : AV} (h : c.one = true \/ c = .undef) : (jP s x c).one = true \/ jP s x c = .undef := by
 rcases h with h | rfl
 . cases c <;> simp only [jP] <;> first | exact .inl h | exact .inr rfl | exact .inr trivial | (split <;> first | exact .inr rfl | exact .inl rfl | exact .inl h1 | (split <;> first | exact .inr rfl | exact .inl h1))
 . exact .inr rfl
theorem EW (h1 : x.one = true) {c : AV} (h : c.one = true \/ c = .undef) : (uB s x c).one = true \/ uB s x c = .undef := by
 cases c with
 | agg => rcases h with h | h <;> cases h
 | tuple => rcases h with h | h <;> cases h
 | fn => exact .inl rfl
 | _ => exact xC (s := s) h1 h
end
theorem aA.frz {cx : Cx} {E : Env} {st : St} {σ : Nat -> Value} {a : Act} {w : World} {s : Nat} {x : D} (hs : aA cx E st σ a w) (hl : live st.heap s) (h1 : x.one = true) (hx : Rep w (Own E.O (fun y => live st.heap y /\ y ≠ s) σ) x (σ s)) :
 aA cx E ⟨st.slots.map fun p => (p.1, NQ.frz s x p.2), (eG s st.heap).map fun p => (p.1, kr s x p.2)⟩ σ a w := by
 have hlive : live ((eG s st.heap).map fun p => (p.1, kr s x p.2)) = fun y => live st.heap y /\ y ≠ s := funext fun y => by
  unfold live
  rw [hX, lH]
  by_cases e : y = s
  . simp [e]
  . rw [if_neg e]; cases find st.heap y <;> simp [e]
 refine ⟨hs.frame, hs.new, hs.apart, hs.defers, hs.nt, fun t => ?_, ⟨fun y b hb => ?_, fun y y' b ly ly' => ?_⟩, hs.glob, hs.globF, fun q0 B hB => ⟨(hs.fix q0 B hB).1, fun h => (hs.fix q0 B hB).2 (by have h' : live ((eG s st.heap).map fun p => (p.1, kr s x p.2)) q0 := h; rw [hlive] at h'; exact h'.1)⟩⟩
 . show ag w E.O (live ((eG s st.heap).map fun p => (p.1, kr s x p.2))) σ (St.get ⟨st.slots.map fun p => (p.1, NQ.frz s x p.2), _⟩ t) _
   rw [hlive]
   have hg : St.get ⟨st.slots.map fun p => (p.1, NQ.frz s x p.2), (eG s st.heap).map fun p => (p.1, kr s x p.2)⟩ t = NQ.frz s x (st.get t) := by
    simp only [St.get, hX]
    cases find st.slots t <;> rfl
   rw [hg]
   exact GL hx (hs.slots t)
 . show bW w E.F E.O (live ((eG s st.heap).map fun p => (p.1, kr s x p.2))) σ y b
   rw [hlive]
   have hb0 : find ((eG s st.heap).map fun p => (p.1, kr s x p.2)) y = some b := hb
   rw [hX, lH] at hb0
   by_cases ey : y = s
   . rw [if_pos ey] at hb0; cases hb0
   . rw [if_neg ey] at hb0
     cases hfy : find st.heap y with
     | none => rw [hfy] at hb0; cases hb0
     | some b0 =>
      rw [hfy] at hb0
      have hold := hs.holds.blk y b0 hfy
      cases b0 with
      | box cells =>
       cases hb0
       obtain ⟨g, cur, t, p1, p2, p3, p4, p5⟩ := hold
       refine ⟨g, cur, t, p1, p2, p3, by simpa using p4, fun j c hj => ?_⟩
       refine ⟨?_, dQ (f := jP s x) (R := ag w E.O (live st.heap) σ) (R' := ag w E.O (fun y => live st.heap y /\ y ≠ s) σ) (fun c v h => mh hx h) (fun j c hj => (p5 j c hj).2) j c hj⟩
       rw [List.getElem?_map] at hj
       cases hc : cells[j]? with
       | none => rw [hc] at hj; cases hj
       | some z => rw [hc] at hj; cases hj; exact xC h1 (p5 j z hc).1
      | row e' size' rows' fl' =>
       cases hb0
       obtain ⟨xs, p1, p2, p3, p4, p5⟩ := hold
       refine ⟨xs, p1, p2, p3, p4, fun i r j d hi hj => ?_⟩
       obtain ⟨u, hu, hd⟩ := p5 i r j d hi hj
       exact ⟨u, hu, hd.mono dS⟩
      | smap m =>
       cases hb0
       obtain ⟨g, es, cl, p1, p2, p3, p4, p5⟩ := hold
       refine ⟨g, es, cl, p1, p2, p3, p4, fun j k v hj => ?_⟩
       obtain ⟨e, he, q1, q2⟩ := p5 j k v hj
       exact ⟨e, he, q1.mono dS, q2.mono dS⟩
      | kmap m => cases hb0; obtain ⟨g, es, cl, p1, p2, p3, p4⟩ := hold; exact ⟨g, es, cl, p1, p2, p3, p4.mono fun _ _ h => h.mono dS⟩
      | arow e size rows' =>
       cases hb0
       obtain ⟨g, cur, t, p1, p2, p3, p4, p5⟩ := hold
       refine ⟨g, cur, t, by rw [List.length_map]; exact p1, p2, p3, fun r hr => ?_, fun i r j c hi hj => ?_⟩
       . obtain ⟨r0, hr0, rfl⟩ := List.mem_map.1 hr
         rw [List.length_map]; exact p4 r0 hr0
       . obtain ⟨r0, c0, k1, k2, rfl⟩ := sM hi hj
         exact ⟨⟨EW h1 (p5 i r0 j c0 k1 k2).1.1, (p5 i r0 j c0 k1 k2).1.2⟩, sm hx (p5 i r0 j c0 k1 k2).2⟩
 . have l1 : live ((eG s st.heap).map fun p => (p.1, kr s x p.2)) y := ly
   have l2 : live ((eG s st.heap).map fun p => (p.1, kr s x p.2)) y' := ly'
   rw [hlive] at l1 l2
   exact hs.holds.inj y y' b l1.1 l2.1
theorem Sim.freeze {cx : Cx} {E : Env} {st : St} {a : Act} {w : World} (s : Nat) (h : Sim cx E st a w) : Sim cx E (st.freeze s) a w := by
 unfold St.freeze
 split
 . rename_i e sz rows fl hf
   obtain ⟨σ, hs⟩ := h
   have hl : live st.heap s := au.2 ⟨_, hf⟩
   have hx : Rep w (Own E.O (fun y => live st.heap y /\ y ≠ s) σ) (.slice sz rows) (σ s) := by
    obtain ⟨xs, o1, o2, o3, o4, o5⟩ := hs.holds.blk s _ hf
    rcases o1.2 with ⟨e1, e2⟩ | ⟨g, cap, cur, e1, _, e3, e4, _, e6, e7⟩
    . obtain rfl : rows = [] := List.eq_nil_of_length_eq_zero e2
      rw [e1]; exact .empty _ _ _
    . rw [e1]
      have hg : home (σ s) = some g := by rw [e1]; rfl
      have hno : ¬ Own E.O (fun y => live st.heap y /\ y ≠ s) σ g := by
       rintro (ho | ⟨y, ⟨hy, hne⟩, ey⟩)
       . exact hs.apart g ho (o2 g hg)
       . exact hne (hs.holds.inj y s g hy hl ey hg)
      have hget : ∀ (i : Nat) r (j : Nat) d, rows[i]? = some r -> r[j]? = some d -> w.cell? ⟨g, 0 + i * sz + j, none⟩ = some (xs.getD (i * sz + j) Go.undef) /\ Rep w (Own E.O (fun y => live st.heap y /\ y ≠ s) σ) d (xs.getD (i * sz + j) Go.undef) := by
       intro i r j d hi hj
       obtain ⟨u, hu, hd⟩ := o5 i r j d hi hj
       have hx : xs.getD (i * sz + j) Go.undef = u := by simp [List.getD, hu]
       rw [hx]
       refine ⟨?_, hd.mono dS⟩
       rw [<- e7, List.getElem?_take] at hu
       split at hu
       . simp only [World.cell?, e3, Nat.zero_add]
         simpa using hu
       . cases hu
      exact .slice sz rows g 0 _ cap (fun i j => xs.getD (i * sz + j) Go.undef) rfl hno (Array.getElem?_eq_some_iff.1 e3).1 e4 o4 (fun i r j d hi hj => (hget i r j d hi hj).1) (fun i r j d hi hj => (hget i r j d hi hj).2)
   exact ⟨σ, hs.frz hl rfl hx⟩
 . rename_i m hf
   obtain ⟨σ, hs⟩ := h
   have hl : live st.heap s := au.2 ⟨_, hf⟩
   obtain ⟨g, es, clock, e1, e2, e3, e4⟩ := hs.holds.blk s _ hf
   have hg : home (σ s) = some g := by rw [e1]; rfl
   have hno : ¬ Own E.O (fun y => live st.heap y /\ y ≠ s) σ g := by
    rintro (ho | ⟨y, ⟨hy, hne⟩, ey⟩)
    . exact hs.apart g ho e2
    . exact hne (hs.holds.inj y s g hy hl ey hg)
   exact ⟨σ, hs.frz hl rfl (by rw [e1]; exact .ofMap hno (Array.getElem?_eq_some_iff.1 e3).1 e3 (e4.mono fun _ _ h => h.mono dS))⟩
 . rename_i m hf
   obtain ⟨σ, hs⟩ := h
   have hl : live st.heap s := au.2 ⟨_, hf⟩
   obtain ⟨g, es, clock, e1, e2, e3, e4, e5⟩ := hs.holds.blk s _ hf
   have hg : home (σ s) = some g := by rw [e1]; rfl
   have hno : ¬ Own E.O (fun y => live st.heap y /\ y ≠ s) σ g := by
    rintro (ho | ⟨y, ⟨hy, hne⟩, ey⟩)
    . exact hs.apart g ho e2
    . exact hne (hs.holds.inj y s g hy hl ey hg)
   refine ⟨σ, hs.frz hl rfl ?_⟩
   rw [e1]
   refine .ofMap hno (Array.getElem?_eq_some_iff.1 e3).1 e3 ⟨by simpa using e4, fun j k v hj => ?_⟩
   rw [List.getElem?_map] at hj
   cases hp : m[j]? with
   | none => rw [hp] at hj; cases hj
   | some p =>
    obtain ⟨k0, v0⟩ := p
    rw [hp] at hj; cases hj
    obtain ⟨e, h1, h2, h3⟩ := e5 j k0 v0 hp
    exact ⟨e, h1, .inl ⟨_, rfl, lh h2 rfl⟩, h3.mono dS⟩
 . rename_i cells hf
   split
   . rename_i ds hv
     obtain ⟨σ, hs⟩ := h
     have hl : live st.heap s := au.2 ⟨_, hf⟩
     obtain ⟨g, cur, t, e1, e2, e3, e4, e5⟩ := hs.holds.blk s _ hf
     obtain ⟨_, hget⟩ := bf hv
     have hg : home (σ s) = some g := by rw [e1]; rfl
     have hno : ¬ Own E.O (fun y => live st.heap y /\ y ≠ s) σ g := by
      rintro (ho | ⟨y, ⟨hy, hne⟩, ey⟩)
      . exact hs.apart g ho e2
      . exact hne (hs.holds.inj y s g hy hl ey hg)
     have key : ∀ j d, ds[j]? = some d -> d.one = true /\ j < cur.size /\ Rep w (Own E.O (fun y => live st.heap y /\ y ≠ s) σ) d (cur.getD j Go.undef) := fun j d hj => by
      obtain ⟨c, hc, hf⟩ := hget j d hj
      obtain ⟨h1, h2⟩ := e5 j c hc
      have hlt : j < cur.size := by rw [e4]; exact (List.getElem?_eq_some_iff.1 hc).1
      generalize cur.getD j Go.undef = u at h2
      cases c <;> simp only [dP] at hf <;> first | (cases hf; done) | skip
      case d y =>
       cases hf
       refine ⟨?_, hlt, ?_⟩
       . rcases h1 with h1 | h1
         . exact h1
         . cases h1
       . cases h2 with | d _ _ h2 => exact h2.mono dS
      case nil sz =>
       cases hf
       refine ⟨rfl, hlt, ?_⟩
       cases h2
       exact .empty _ _ _
     refine ⟨σ, hs.frz hl rfl ?_⟩
     rw [e1]
     refine .ptr ds g 0 (fun j => cur.getD j Go.undef) hno (Array.getElem?_eq_some_iff.1 e3).1 (fun d hd => ?_) (fun j d hj => ?_) (fun j d hj => (key j d hj).2.2)
     . obtain ⟨j, hj⟩ := List.getElem?_of_mem hd
       exact (key j d hj).1
     . have := (key j d hj).2.1
       simp [World.cell?, e3, this]
   . exact h
 . exact h
theorem Sim.aN {cx : Cx} {E : Env} {a : Act} {w : World} : ∀ (l : List Nat) {st : St}, Sim cx E st a w -> Sim cx E (st.aN l) a w
 | [], st, h => h
 | s :: t, st, h => Sim.aN t (h.freeze s)
def FnR (cx : Cx) (f : FuncId) (give : Bool) (e : TypeId) (sz : Nat) (rows : List (List D)) (fl : Bool) (args : List D) (rows' : List (List D)) : Prop :=
 ji cx.P f /\ ∀ (O : Nat -> Prop) (w : World) (v : Value) (vs : Array Value) (xs : List Value), (∀ b, O b -> b < w.heap.size) -> eH cx w -> (∀ g cells, cx.gl g = some cells -> ¬ O g) -> (∀ g, home v = some g -> O g) ->
  w.ownsRow 0 e sz v rows.length xs -> (fl = true -> ∃ a, v = .slice a rows.length rows.length) -> 0 < sz -> (∀ r ∈ rows, r.length = sz /\ ∀ d ∈ r, d.one = true) ->
  (∀ i r j d, rows[i]? = some r -> r[j]? = some d -> ∃ u, xs[i * sz + j]? = some u /\ Rep w O d u) -> vs.size = args.length -> (∀ (j : Nat) d, args[j]? = some d -> Rep w O d (vs.getD j Go.undef)) ->
  Calls cx.P f (#[v] ++ vs) w fun en w' => ∃ v' xs', (match give with | true => en = .returned v' | false => en = .returned Go.undef /\ v' = v) /\ w'.os = w.os /\ w'.tape = w.tape /\ w'.output = w.output /\ w.heap.size <= w'.heap.size /\
   (∀ k, k < w.heap.size -> home v ≠ some k -> w'.heap[k]? = w.heap[k]?) /\ (∀ g, home v' = some g -> home v = some g \/ w.heap.size <= g) /\ w'.ownsRow 0 e sz v' rows'.length xs' /\ (∀ r ∈ rows', r.length = sz /\ ∀ d ∈ r, d.one = true) /\
   ∀ i r j d, rows'[i]? = some r -> r[j]? = some d -> ∃ u, xs'[i * sz + j]? = some u /\ Rep w' (fun b => (O b /\ home v ≠ some b) \/ home v' = some b) d u
def DQ (cx : Cx) (f : FuncId) (give : Bool) (e : TypeId) (sz : Nat) (rows : List (List D)) (fl : Bool) (args : List D) (rows' : List (List D)) : Prop :=
 ji cx.P f /\ ∀ (O : Nat -> Prop) (w : World) (v : Value) (vs : Array Value) (xs : List Value), (∀ b, O b -> b < w.heap.size) -> eH cx w -> (∀ g cells, cx.gl g = some cells -> ¬ O g) -> (∀ g, home v = some g -> O g) ->
  w.ownsRow 0 e sz v rows.length xs -> (fl = true -> ∃ a, v = .slice a rows.length rows.length) -> 0 < sz -> (∀ r ∈ rows, r.length = sz /\ ∀ d ∈ r, d.one = true) ->
  (∀ i r j d, rows[i]? = some r -> r[j]? = some d -> ∃ u, xs[i * sz + j]? = some u /\ Rep w O d u) -> vs.size = args.length -> (∀ (j : Nat) d, args[j]? = some d -> Rep w O d (vs.getD j Go.undef)) ->
  Calls cx.P f (#[v] ++ vs) w fun en w' => ∃ v' xs', (match give with | true => en = .returned v' | false => en = .returned Go.undef /\ v' = v) /\ w'.os = w.os /\ w'.tape = w.tape /\ w'.output = w.output /\ w.heap.size <= w'.heap.size /\
   (∀ k, k < w.heap.size -> home v ≠ some k -> w'.heap[k]? = w.heap[k]?) /\ (∀ g, home v' = some g -> home v = some g \/ w.heap.size <= g) /\ w'.ownsRow 0 e sz v' rows'.length xs' /\ (∀ r ∈ rows', r.length = sz /\ ∀ d ∈ r, d.one = true) /\
   ∀ i r j d, rows'[i]? = some r -> r[j]? = some d -> ∃ u, xs'[i * sz + j]? = some u /\ Rep w O d u
theorem zT {cx : Cx} {f : FuncId} {give : Bool} {e : TypeId} {sz : Nat} {rows : List (List D)} {fl : Bool} {args : List D} {rows' : List (List D)} (h : DQ cx f give e sz rows fl args rows') : FnR cx f give e sz rows fl args rows' := by
 refine ⟨h.1, fun O w v vs xs hO hG hGO hv h1 h2 h3 h4 h5 h6 h7 => (h.2 O w v vs xs hO hG hGO hv h1 h2 h3 h4 h5 h6 h7).mono ?_⟩
 rintro en w' ⟨v', xs', g1, q1, q2, q3, q4, q5, q6, q7, q8, q9⟩
 refine ⟨v', xs', g1, q1, q2, q3, q4, q5, q6, q7, q8, fun i r j d hi hj => ?_⟩
 obtain ⟨u, hu, hd⟩ := q9 i r j d hi hj
 refine ⟨u, hu, hd.mono ⟨q4, fun b hb hlt => q5 b hlt fun e => hb (hv b e), fun b hb hlt ho => ?_⟩⟩
 rcases ho with ⟨ho, _⟩ | ho
 . exact hb ho
 . rcases q6 b ho with e | e
   . exact hb (hv b e)
   . omega
theorem Sim.born {cx : Cx} {E : Env} {st : St} {a : Act} {w : World} (s : Nat) (e : TypeId) (sz' : Nat) (h2 : find st.heap s = none) (h3 : 0 < sz') (h4 : s < 100000) (h : Sim cx E st a w) : ∃ σ, aA cx E ⟨st.slots, (s, .row e sz' []) :: st.heap⟩ σ a w /\ σ s = .slice none 0 0 := by
 obtain ⟨σ, hs⟩ := h
 have hn : ¬ live st.heap s := by unfold live; rw [h2]; simp
 let σ' : Nat -> Value := fun x => if x = s then .slice none 0 0 else σ x
 have e1 : σ' s = .slice none 0 0 := if_pos rfl
 have e2 : ∀ x, live st.heap x -> σ' x = σ x := fun x hl => if_neg fun (e : x = s) => hn (e ▸ hl)
 have hL : ∀ x, live ((s, Blk.row e sz' []) :: st.heap) x ↔ x = s \/ live st.heap x := fun x => by
  have := bO (bs := [(s, Blk.row e sz' [])]) (h := st.heap) (s := x)
  rw [bX] at this; exact this
 have hk : aB w w (Own E.O (live st.heap) σ) (Own E.O (live ((s, Blk.row e sz' []) :: st.heap)) σ') := aB.less fun b hb => by
  rcases hb with hb | ⟨x, hl, hx⟩
  . exact .inl hb
  . rcases (hL x).1 hl with rfl | hl
    . rw [e1] at hx; cases hx
    . rw [e2 x hl] at hx; exact .inr ⟨x, hl, hx⟩
 have hss : ∀ x, live st.heap x -> live ((s, Blk.row e sz' []) :: st.heap) x /\ σ' x = σ x := fun x hl => ⟨(hL x).2 (.inr hl), e2 x hl⟩
 refine ⟨σ', ⟨hs.frame, hs.new, hs.apart, hs.defers, hs.nt, fun q => (hs.slots q).mono hk hss, ⟨fun x b hb => ?_, fun x y b l l' f f' => ?_⟩, hs.glob, hs.globF, fun q0 B hB => ⟨(hs.fix q0 B hB).1, fun h => ?_⟩⟩, e1⟩
 . have hb' : find ((s, Blk.row e sz' []) :: st.heap) x = some b := hb
   rw [dt] at hb'
   split at hb'
   . rename_i hx; subst hx; cases hb'
     exact ⟨[], by rw [e1]; exact World.ownsRow_nil w 0 e sz', (fun b hb => by rw [e1] at hb; cases hb), ⟨h3, fun e => by cases e⟩, fun r hr => by simp at hr, fun i r j d hi => by simp at hi⟩
   . have hl : live st.heap x := au.2 ⟨b, hb'⟩
     exact (hs.holds.blk x b hb').mono hk hss hl fun g _ => rfl
 . rcases (hL x).1 l with rfl | l
   . rw [e1] at f; cases f
   . rcases (hL y).1 l' with rfl | l'
     . rw [e1] at f'; cases f'
     . rw [e2 x l] at f; rw [e2 y l'] at f'; exact hs.holds.inj x y b l l' f f'
 . rcases (hL _).1 h with e | h
   . have hq0 := (hs.fix q0 B hB).1.2
     omega
   . rw [e2 _ h]; exact (hs.fix q0 B hB).2 h
def nY : List AV -> List Nat
 | [] => []
 | .own s :: t => s :: nY t
 | _ :: t => nY t
def Fg (cx : Cx) (st0 : St) (d : Option Nat) (give : Bool) (f : FuncId) (args : List Operand) (ts : List TypeId) (k : AV -> St -> Prop) : Prop :=
 let st := st0.aN (nY ((bL cx st0 args ts).drop 1))
 match bL cx st args ts with
 | .own s :: rest => (match find st.heap s, bu fq rest with
  | some (.row e sz rows fl), some ds => ∃ rows', FnR cx f give e sz rows fl ds rows' /\ (match give with | true => k (.own s) ⟨im s st.slots, (s, .row e sz rows') :: dC s st.heap⟩ | false => k (.tuple []) ⟨st.slots, (s, .row e sz rows') :: st.heap⟩)
  | _, _ => False)
 | .nil _ :: rest => (match d, ts with
  | some d, t :: _ => (match cA cx t, find st.heap d, bu fq rest, give with
   | some (e, ei), none, some ds, true => (match Nat.ble 1 ei.size, Nat.blt d 100000 with
    | true, true => ∃ rows', FnR cx f true e ei.size [] false ds rows' /\ k (.own d) ⟨im d st.slots, (d, .row e ei.size rows') :: dC d ((d, .row e ei.size []) :: st.heap)⟩
    | _, _ => False)
   | _, _, _, _ => False)
  | _, _ => False)
 | _ => False
theorem ot {cx : Cx} {sl : List (Nat × AV)} {h h' : List (Nat × Blk)} : ∀ (xs : List Operand) (ts : List TypeId), bL cx ⟨sl, h⟩ xs ts = bL cx ⟨sl, h'⟩ xs ts
 | [], _ => rfl
 | x :: xs, t :: ts => by simp only [bL]; rw [ot xs ts]; cases x <;> rfl
 | x :: xs, [] => by simp only [bL]; rw [ot xs []]; cases x <;> rfl
def F5 (give : Bool) (s : Nat) : AV := match give with | true => .own s | false => .tuple []
def F4 (give : Bool) (s : Nat) (sl : List (Nat × AV)) : List (Nat × AV) := match give with | true => im s sl | false => sl
def F3 (give : Bool) (s : Nat) (h : List (Nat × Blk)) : List (Nat × Blk) := match give with | true => dC s h | false => h
theorem Ac {cx : Cx} {st : St} {o : Oper} {c : Call} {f : FuncId} {give : Bool} (ho : o.op = .call c) (hc : c.callee = .value (.func f)) {s : Nat} {rest : List AV} {e : TypeId} {sz : Nat} {rows : List (List D)} {fl : Bool} {ds : List D} {rows' : List (List D)} {x0 : Operand} {xr : List Operand}
 (hxr : c.args.toList = x0 :: xr) (hf : find st.heap s = some (.row e sz rows fl)) (hds : bu fq rest = some ds) (hFn : FnR cx f give e sz rows fl ds rows') {v : AV} (hv : v = F5 give s) {E : Env} {a : Act} {w : World} {Q : Exit -> Act -> World -> Prop} (hd : ∀ e, o.dst = some e -> e < E.nt)
 {σ : Nat -> Value} (hs : aA cx E st σ a w) (hv0 : a.eval x0 = σ s) (hlen : rest.length = xr.length) (l2 : ∀ (j : Nat) cc, rest[j]? = some cc -> ∃ x, xr[j]? = some x /\ ag w E.O (live st.heap) σ cc (a.eval x)) :
 o.wp cx.P a w (fun a' w' => Sim cx E ⟨bD (F4 give s st.slots) o.dst v, (s, .row e sz rows') :: F3 give s st.heap⟩ a' w') Q := by
 obtain ⟨k1, k2⟩ := bf hds
 have hl : live st.heap s := au.2 ⟨_, hf⟩
 obtain ⟨xs, o1, o2, o3, o4, o5⟩ := hs.holds.blk s _ hf
 have hvals : c.args.map a.eval = #[σ s] ++ (xr.map a.eval).toArray := by
  rw [<- Array.toList_inj]; simp [hxr, hv0]
 obtain ⟨⟨fn, hf1, hf2, hf3⟩, hcall⟩ := hFn
 have hf2' : ¬ fn.name = "runtime.NumGoroutine" := by simpa using hf2
 have hf3' : ¬ fn.body = none := by intro e; rw [e] at hf3; cases hf3
 have hrun : (execOp a.eval o).run cx.P w = .ok (.enter f (#[σ s] ++ (xr.map a.eval).toArray)) w := by
  have : a.eval (.func f) = .func (.func f) #[] #[] := rfl
  rw [<- hvals]
  simp [execOp, ho, resolve, hc, this, Deferred.ofValue, invoke, callFunc, hf1, hf2', hf3']
 have hcalls := hcall (Own E.O (live st.heap) σ) w (σ s) (xr.map a.eval).toArray xs (fun b hb => hs.tL b hb) hs.kL (fun g cells hgl => hs.nX hgl) (fun g hg => .inr ⟨s, hl, hg⟩) o1 o3.2 o3.1 o4 o5
  (by simp; omega)
  (fun j d hj => by
   obtain ⟨cc, hcc, hfa⟩ := k2 j d hj
   obtain ⟨x, hx', hr⟩ := l2 j cc hcc
   have : (xr.map a.eval).toArray.getD j Go.undef = a.eval x := by simp [hx']
   rw [this]; exact eU hfa hr)
 simp only [Oper.wp, hrun, Oper.upon]
 refine hcalls.mono fun en w' => ?_
 rintro ⟨v', xs', hen, q1, q2, q3, q4, q5, q6, q7, q8, q9⟩
 obtain ⟨u, hu, hru⟩ : ∃ u, en = .returned u /\ ∀ σ' : Nat -> Value, σ' s = v' -> ∀ w', ag w' E.O (live st.heap) σ' v u := by
  cases give with
  | true => exact ⟨v', hen, fun σ' e1 w' => by have hv : v = .own s := hv; rw [hv]; have := ag.own (w := w') (O := E.O) (σ := σ') s hl; rw [e1] at this; exact this⟩
  | false => exact ⟨_, hen.1, fun σ' e1 w' => by have hv : v = .tuple [] := hv; rw [hv]; exact .tuple [] #[] rfl fun j c hj => by simp at hj⟩
 subst hu
 dsimp only
 have hblk : ∀ σ' : Nat -> Value, σ' s = v' -> (∀ x, x ≠ s -> σ' x = σ x) -> bW w' E.F E.O (live st.heap) σ' s (.row e sz rows') := fun σ' e1 e2 => by
  refine ⟨xs', by rw [e1]; exact q7, fun b hb => ?_, ⟨o3.1, fun e => by cases e⟩, q8, fun i r j d hi hj => ?_⟩
  . rw [e1] at hb
    rcases q6 b hb with hb | hb
    . exact o2 b hb
    . exact hs.new b (Nat.le_trans hs.frame.size hb)
  . obtain ⟨u, hu, hd⟩ := q9 i r j d hi hj
    refine ⟨u, hu, hd.mono (aB.less fun b hb => ?_)⟩
    rcases hb with hb | ⟨y, hy, ey⟩
    . refine .inl ⟨.inl hb, fun e => ?_⟩
      exact hs.apart b hb ((hs.holds.home hl e).1)
    . by_cases hys : y = s
      . subst hys; rw [e1] at ey; exact .inr ey
      . rw [e2 y hys] at ey
        exact .inl ⟨.inr ⟨y, hy, ey⟩, fun e => hys (hs.holds.inj y s b hy hl ey e)⟩
 cases give with
 | true => exact hs.Gg (τ := v') hd hl (fun aa e => by rcases o1.2 with ⟨e', _⟩ | ⟨_, _, _, e', _⟩ <;> (rw [e'] at e; cases e)) q1 q2 q3 q4 q5 q6 (fun σ' e1 e2 hkeep => hblk σ' e1 e2) (fun σ' e1 => hru σ' e1 w')
 | false =>
  have hv' : v' = σ s := hen.2
  exact ⟨σ, hs.IE hd hl q1 q2 q3 q4 q5 (fun _ => hblk σ hv'.symm fun _ _ => rfl) (hru σ hv'.symm w')⟩
theorem Ic {cx : Cx} {st0 : St} {o : Oper} {c : Call} {f : FuncId} {give : Bool} {k : AV -> St -> Prop} (ho : o.op = .call c) (hc : c.callee = .value (.func f)) (h : Fg cx st0 o.dst give f c.args.toList c.argTypes.toList k) :
 ∃ v st1, oh cx o st0 ⟨bD st1.slots o.dst v, st1.heap⟩ /\ k v st1 := by
 unfold Fg at h
 dsimp only at h
 generalize hst : st0.aN (nY ((bL cx st0 c.args.toList c.argTypes.toList).drop 1)) = st at h
 split at h
 . rename_i s rest harg
   split at h
   . rename_i e sz rows fl ds hf hds
     obtain ⟨rows', hFn, hk⟩ := h
     have hall : ∀ (v : AV), v = F5 give s -> ∀ (E : Env) a w (Q : Exit -> Act -> World -> Prop), (∀ e, o.dst = some e -> e < E.nt) -> Sim cx E st0 a w -> o.wp cx.P a w (fun a' w' => Sim cx E ⟨bD (F4 give s st.slots) o.dst v, (s, .row e sz rows') :: F3 give s st.heap⟩ a' w') Q := by
      intro v hv E a w Q hd hs0
      obtain ⟨σ, hs⟩ : Sim cx E st a w := by rw [<- hst]; exact hs0.aN _
      obtain ⟨l1, l2⟩ := fN (St.le.refl st) hs c.args.toList c.argTypes.toList
      rw [harg] at l1 l2
      obtain ⟨x0, hx0, hr0⟩ := l2 0 _ rfl
      obtain ⟨xr, hxr⟩ : ∃ xr, c.args.toList = x0 :: xr := by
       cases hcl : c.args.toList with
       | nil => rw [hcl] at hx0; cases hx0
       | cons y ys => rw [hcl] at hx0; cases hx0; exact ⟨ys, rfl⟩
      have hv0 : a.eval x0 = σ s := by generalize a.eval x0 = u at hr0; cases hr0; rfl
      refine Ac ho hc hxr hf hds hFn hv hd hs hv0 ?_ fun j cc hcc => ?_
      . rw [hxr] at l1; simp at l1; omega
      . obtain ⟨x, hx, hr⟩ := l2 (j + 1) cc (by simpa using hcc)
        rw [hxr] at hx
        exact ⟨x, by simpa using hx, hr⟩
     cases give with
     | true => exact ⟨.own s, ⟨im s st.slots, (s, .row e sz rows') :: dC s st.heap⟩, hall _ rfl, hk⟩
     | false => exact ⟨.tuple [], ⟨st.slots, (s, .row e sz rows') :: st.heap⟩, hall _ rfl, hk⟩
   . exact h.elim
 . rename_i z rest harg
   split at h
   . rename_i d t ts' hdst hts
     split at h
     . rename_i e ei ds hse hfn hds
       split at h
       . rename_i b1 b2
         obtain ⟨rows', hFn, hk⟩ := h
         refine ⟨.own d, _, fun E a w Q hd hs0 => ?_, hk⟩
         obtain ⟨σ0, hs00⟩ : Sim cx E st a w := by rw [<- hst]; exact hs0.aN _
         obtain ⟨l1, l2⟩ := fN (St.le.refl st) hs00 c.args.toList c.argTypes.toList
         rw [harg] at l1 l2
         obtain ⟨x0, hx0, hr0⟩ := l2 0 _ rfl
         obtain ⟨xr, hxr⟩ : ∃ xr, c.args.toList = x0 :: xr := by
          cases hcl : c.args.toList with
          | nil => rw [hcl] at hx0; cases hx0
          | cons y ys => rw [hcl] at hx0; cases hx0; exact ⟨ys, rfl⟩
         obtain ⟨σ, hs, hσ⟩ := Sim.born d e ei.size hfn (Nat.le_of_ble_eq_true b1) (Nat.lt_of_succ_le (Nat.le_of_ble_eq_true b2)) ⟨σ0, hs00⟩
         have hv0 : a.eval x0 = σ d := by rw [hσ]; generalize a.eval x0 = u at hr0; cases hr0; rfl
         have hlist : bL cx ⟨st.slots, (d, .row e ei.size []) :: st.heap⟩ c.args.toList c.argTypes.toList = AV.nil z :: rest := by rw [<- harg]; exact ot _ _
         obtain ⟨m1, m2⟩ := fN (St.le.refl _) hs c.args.toList c.argTypes.toList
         rw [hlist] at m1 m2
         refine Ac (st := ⟨st.slots, (d, .row e ei.size []) :: st.heap⟩) (give := true) ho hc hxr (by exact aC ..) hds hFn rfl hd hs hv0 ?_ fun j cc hcc => ?_
         . rw [hxr] at m1; simp at m1; omega
         . obtain ⟨x, hx, hr⟩ := m2 (j + 1) cc (by simpa using hcc)
           rw [hxr] at hx
           exact ⟨x, by simpa using hx, hr⟩
       . exact h.elim
     . exact h.elim
   . exact h.elim
 . exact h.elim
def s9 (cx : Cx) (st : St) (f : AV) (args : List AV) (k : AV -> St -> Prop) : Prop :=
 match callee f with
 | some (g, a, b) => (match a ++ args ++ b with
  | .ptr s 0 :: rest => (match find st.heap s, bu fq rest with
   | some (.box cs), some ds => (match bu dP cs with
    | some cells => ∃ v cells', FnB cx g cells ds v cells' /\ k v ⟨st.slots, (s, .box (cells'.map .d)) :: st.heap⟩
    | none => False)
   | _, _ => False)
  | _ => False)
 | none => False
theorem wY {cx : Cx} {st : St} {o : Oper} {c : Call} {f : Operand} {k : AV -> St -> Prop} (ho : o.op = .call c) (hc : c.callee = .value f) (h : s9 cx st (st.ev cx f) (bL cx st c.args.toList c.argTypes.toList) k) :
 ∃ v st1, oh cx o st ⟨bD st1.slots o.dst v, st1.heap⟩ /\ k v st1 := by
 unfold s9 at h
 split at h
 . rename_i g xs ys hg
   split at h
   . rename_i s rest harg
     split at h
     . rename_i cs ds hf hds
       split at h
       . rename_i cells hcells
         obtain ⟨v, cells', hFn, hk⟩ := h
         refine ⟨v, _, fun E a w Q hd ⟨σ, hs⟩ => ?_, hk⟩
         obtain ⟨us, vs, hu, s1, s2, r1, r2⟩ := tg hg (hs.ev (St.le.refl st) f)
         obtain ⟨l1, l2⟩ := fN (St.le.refl st) hs c.args.toList c.argTypes.toList
         obtain ⟨⟨fn, hf1, hf2, hf3⟩, hcall⟩ := hFn
         have hf2' : ¬ fn.name = "runtime.NumGoroutine" := by simpa using hf2
         have hf3' : ¬ fn.body = none := by intro e; rw [e] at hf3; cases hf3
         have hrun : (execOp a.eval o).run cx.P w = .ok (.enter g (us ++ c.args.map a.eval ++ vs)) w := by
          simp [execOp, ho, resolve, hc, hu, Deferred.ofValue, invoke, callFunc, hf1, hf2', hf3']
         have hall := tZ (R := ag w E.O (live st.heap) σ) (A := xs) (B := bL cx st c.args.toList c.argTypes.toList) (C := ys) (ys := c.args.map a.eval) s1 (by simp [l1]) r1 (fun j cc hj => by
          obtain ⟨x, hx, hr⟩ := l2 j cc hj
          have : (c.args.map a.eval).getD j Go.undef = a.eval x := by rw [Array.getElem?_toList] at hx; simp [hx]
          rw [this]; exact hr) r2
         have hsz : (us ++ c.args.map a.eval ++ vs).size = (AV.ptr s 0 :: rest).length := by rw [<- harg]; simp [s1, s2, l1]
         rw [harg] at hall
         generalize us ++ c.args.map a.eval ++ vs = vals at hrun hall hsz
         obtain ⟨B, cur, t, e1, e2, e3, e4, e5⟩ := hs.holds.blk s _ hf
         have hl : live st.heap s := au.2 ⟨_, hf⟩
         have h0 : vals.getD 0 Go.undef = .pointer (some ⟨B, 0, none⟩) := by
          have := hall 0 _ rfl
          generalize vals.getD 0 Go.undef = u at this
          cases this with | ptr _ _ b hL hσ => rw [hσ] at e1; cases e1; rfl
         have hvals : vals = #[.pointer (some ⟨B, 0, none⟩)] ++ vals.extract 1 vals.size := by
          apply Array.ext
          . simp at hsz ⊢; omega
          . intro i h1 h2
            rcases i with _ | i
            . have : vals[0] = vals.getD 0 Go.undef := by simp [h1]
              rw [this, h0]; simp
            . simp [Array.getElem_append]
              congr 1; omega
         obtain ⟨k1, k2⟩ := bf hds
         obtain ⟨q1, q2⟩ := bf hcells
         have hcalls := hcall (Own E.O (live st.heap) σ) w B cur t (vals.extract 1 vals.size) (fun b hb => hs.tL b hb) hs.kL (fun g cells hgl => hs.nX hgl) (.inr ⟨s, hl, by rw [e1]; rfl⟩) e3 (by rw [e4, q1])
          (fun j d hj => by
           obtain ⟨cc, hcc, hfr⟩ := q2 j d hj
           refine ⟨?_, eV hfr (e5 j cc hcc).2⟩
           have h1 := (e5 j cc hcc).1
           cases cc <;> simp [dP] at hfr
           . subst hfr; rcases h1 with h1 | h1
             . exact h1
             . cases h1
           . subst hfr; rfl)
          (by simp at hsz ⊢; omega)
          (fun j d hj => by
           obtain ⟨cc, hcc, hfa⟩ := k2 j d hj
           have hr := hall (j + 1) cc (by simpa using hcc)
           have hlt : j + 1 < vals.size := by rw [hsz]; have := (List.getElem?_eq_some_iff.1 hcc).1; simp; omega
           have : (vals.extract 1 vals.size).getD j Go.undef = vals.getD (j + 1) Go.undef := by
            simp [Array.getD_eq_getD_getElem?, Array.getElem?_extract, hlt, show j < vals.size - 1 by omega, Nat.add_comm]
           rw [this]; exact eU hfa hr)
         rw [<- hvals] at hcalls
         simp only [Oper.wp, hrun, Oper.upon]
         refine hcalls.mono fun en w' => ?_
         rintro ⟨u, cur', t', rfl, p1, p2, p3, p4, p5, p6, p7, p8, p9⟩
         dsimp only
         have hk0 : aB w' w' (Own (Own E.O (live st.heap) σ) (fun _ => False) (fun _ => Value.nilFunc)) (Own E.O (live st.heap) σ) := aB.less fun b hb => .inl hb
         refine ⟨σ, hs.ID hd hl (by rw [e1]; rfl) p1 p2 p3 p4 p5 (fun hkeep => ?_) (p9.mono hk0 fun s h => h.elim)⟩
         refine ⟨B, cur', t', e1, e2, p6, by rw [p7, List.length_map], fun j c hj => ?_⟩
         rw [List.getElem?_map] at hj
         cases hc' : cells'[j]? with
         | none => rw [hc'] at hj; cases hj
         | some d => rw [hc'] at hj; cases hj; exact ⟨.inl (p8 j d hc').1, .d _ _ (p8 j d hc').2⟩
       . exact h.elim
     . exact h.elim
   . exact h.elim
 . exact h.elim
end NQ
