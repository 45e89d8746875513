/-
  Texts of the proof of the law DenialComplete, merged in build order.
-/
import Derived.Test.YtjecmfajdofamaaGreatDoorMVa
import Derived.Test.YtjecmfajdofamaaGreatDoorTyM
import Derived.WalkKit
import Derived.Deep.LoopGhost
import Derived.Deep.RegionLaw
import Derived.Lib.Walk
import Derived.Lib.SliceRun
import Derived.Lib.SlicesDelete
import Derived.Shelf.RegionOpenPlain
import Derived.Lib.Hide
import Derived.Test.YtjecmfajdofamaaGreatDoorQzM
import Derived.Lib.AppendZerosOnto
import Derived.Laws.NewBlocks
import Derived.Shelf.Spec.SlicesInsert
import Derived.Test.YtjecmfajdofamaaGreatDoorMQt
/-
  Contracts of slices.Clone, zone.clone, zone.cloneZone, zone.Find on plain data.
-/
set_option linter.unusedSimpArgs false
set_option linter.unusedVariables false
set_option maxRecDepth 100000
namespace NP
open NQ Go
def zeroSg : Signed := ⟨⟨[], 0, 0, []⟩, []⟩
def Small (s : Signed) : Prop := s.set.data.length ≤ 100000 ∧ s.sigs.length ≤ 100000
theorem set_row {α : Type} {l : List α} {k n : Nat} {x z : α} (hk : l[k]? = some x) (hn : l.length = n) : (l.take k ++ List.replicate (n - k) z).set k x = l.take (k + 1) ++ List.replicate (n - (k + 1)) z := by
  have hlt : k < l.length := (List.getElem?_eq_some_iff.1 hk).1
  have h1 : (l.take k).length = k := by simp; omega
  rw [List.set_append_right _ _ (by omega), h1, Nat.sub_self, show n - k = (n - (k + 1)) + 1 by omega, List.replicate_succ, List.set_cons_zero, take_snoc hk, List.append_assoc]
  rfl
def findR (z : Zone) (q : Quest) : Signed × Bool × Int :=
  if (!questB q || !validZ z) = true then (zeroSg, false, 1) else if (!hasS z.sets q) = true then (zeroSg, false, 0) else ((z.sets[posOf z.sets q]?).getD zeroSg, true, 0)
theorem inForm_small {l : List Sig} {a : Bs} (h : inForm l a = true) : l.length ≤ 6 := by
  simp [inForm] at h; omega
theorem setB_small {s : RSet} (h : setB s = true) : s.data.length ≤ 8 := by
  unfold setB at h; simp only [Bool.and_eq_true, Bool.not_eq_true', Bool.or_eq_false_iff, Bool.not_eq_false'] at h; have := h.1.1.2; simp [within] at this; omega
theorem valid_small {z : Zone} (h : validZ z = true) : ∀ s ∈ z.sets, Small s := fun s hs => by
  have ho := validZ_ordered h
  refine ⟨by have := setB_small (ho.set s hs); omega, ?_⟩
  simp only [validZ, Bool.and_eq_true] at h
  have hf := h.2.2
  simp only [formB, List.all_eq_true] at hf
  obtain ⟨i, hi, rfl⟩ := List.getElem_of_mem hs
  have := hf i (List.mem_range.2 hi)
  simp only [frmAt, List.getElem?_eq_getElem hi] at this
  have := inForm_small this
  omega
end NP
namespace Go.Proofs.YtjecmfajdofamaaGreatDoor
open NQ Go NP Go.RowKit

theorem cloneData_fn (rows : List (List D)) (hl : rows.length ≤ 100000) : NQ.Fn cx 157 [.slice 3 rows] (.d (.slice 3 rows)) [] := by
  refine fn_of_vc tyOk mixed Tryz.func157 (by kernel_rfl) rfl (Nat.le_of_ble_eq_true rfl) ?_; conv => whnf
  refine ⟨fun h => ?_, ?_⟩
  · refine ret_data rfl ?_
    rw [List.isEmpty_iff.1 h]; rfl
  · conv => whnf
    refine ⟨by (show 0 + rows.length ≤ _; omega), by (show (0 + rows.length) * 32 ≤ _; omega), ?_⟩
    conv => whnf
    exact ret_data rfl rfl
theorem cloneSigs_fn (rows : List (List D)) (hl : rows.length ≤ 100000) : NQ.Fn cx 158 [.slice 6 rows] (.d (.slice 6 rows)) [] := by
  refine fn_of_vc tyOk mixed Tryz.func158 (by kernel_rfl) rfl (Nat.le_of_ble_eq_true rfl) ?_; conv => whnf
  refine ⟨fun h => ?_, ?_⟩
  · refine ret_data rfl ?_
    rw [List.isEmpty_iff.1 h]; rfl
  · conv => whnf
    refine ⟨by (show 0 + rows.length ≤ _; omega), by (show (0 + rows.length) * 56 ≤ _; omega), ?_⟩
    conv => whnf
    exact ret_data rfl rfl
theorem clone_fn (s : Signed) (h1 : s.set.data.length ≤ 100000) (h2 : s.sigs.length ≤ 100000) : NQ.Fn cx 77 [.agg (signedD s)] (.agg ((signedD s).map .d)) [] := by
  refine fn_of_vc tyOk mixed Tryz.func77 (by kernel_rfl) rfl (Nat.le_of_ble_eq_true rfl) ?_; conv => whnf
  (refine ⟨_, _, cloneData_fn _ (by simpa using h1), ?_⟩; conv => whnf)
  (refine ⟨_, _, cloneSigs_fn _ (by simpa using h2), ?_⟩; conv => whnf)
  exact ret_data rfl rfl

theorem zfind_fn (z : Zone) (q : Quest) : NQ.Fn cx 22 [.agg (zoneD z), .agg (questD q)] (.tuple [.agg ((signedD (findR z q).1).map .d), .d (.bool (findR z q).2.1), .d (.int .i64 (findR z q).2.2)]) [] := by
  refine fn_of_vc tyOk mixed Tryz.func22 (by kernel_rfl) rfl (Nat.le_of_ble_eq_true rfl) ?_; conv => whnf
  (refine ⟨_, _, questB_fn q, ?_⟩; conv => whnf)
  have bad : (!questB q || !validZ z) = true → findR z q = (zeroSg, false, 1) := fun h => by rw [findR, if_pos h]
  (refine bcase_intro (fun h => ?_) (fun h => ?_) <;> (rw [h]; conv => whnf))
  · refine ret_data rfl ?_; rw [bad (by simp [h])]; rfl
  have hq0 := h
  (refine ⟨_, _, zvalid_fn z, ?_⟩; conv => whnf)
  (refine bcase_intro (fun h => ?_) (fun h => ?_) <;> (rw [h]; conv => whnf))
  · refine ret_data rfl ?_; rw [bad (by simp [h])]; rfl
  have hq : questB q = true := by simpa using hq0
  have hv : validZ z = true := by simpa using h
  have hqn : validN q.name = true := by simp [questB] at hq; exact hq.1.1
  have ho := validZ_ordered hv
  (refine ⟨_, _, find_ok ho q hqn, ?_⟩; conv => whnf)
  (refine bcase_intro (fun h => ?_) (fun h => ?_) <;> (rw [h]; conv => whnf))
  · refine ret_data rfl ?_; rw [findR, if_neg (by simp [hq, hv]), if_pos (by assumption)]; rfl
  have hh := h
  obtain ⟨s, hs, hm, _⟩ := found_ok ho hqn (by simpa using hh)
  refine ⟨Int.natCast_nonneg _, signedD s, map_get hs, ?_⟩
  conv => whnf
  have hsm := valid_small hv s hm
  (refine ⟨_, _, clone_fn s hsm.1 hsm.2, ?_⟩; conv => whnf)
  refine ret_data rfl ?_
  rw [findR, if_neg (by simp [hq, hv]), if_neg (by simpa using hh), hs]; rfl
end Go.Proofs.YtjecmfajdofamaaGreatDoor

/-
  Contracts of zone.Put and zone.Drop on plain data.
-/
set_option linter.unusedSimpArgs false
set_option linter.unusedVariables false
set_option maxRecDepth 100000
namespace NP
open NQ Go
def qOf (s : Signed) : Quest := ⟨s.set.name, s.set.type⟩
def insAt (l : List Signed) (i : Nat) (s : Signed) : List Signed := l.take i ++ [s] ++ l.drop i
/-- The sets with one put in. -/
def putL (l : List Signed) (s : Signed) : List Signed := if hasS l (qOf s) = true then l.set (posOf l (qOf s)) s else insAt l (posOf l (qOf s)) s
end NP
namespace Go.Proofs.YtjecmfajdofamaaGreatDoor
open NQ Go NP Go.RowKit

end Go.Proofs.YtjecmfajdofamaaGreatDoor

/-
  Plain laws of Cut and Find.
-/
set_option linter.unusedSimpArgs false
set_option linter.unusedVariables false
set_option maxRecDepth 100000
namespace NP
open NQ Go
theorem labs_le {s : Bs} (h : validN s = true) : (labs s).length ≤ 8 := by
  have := valid_okL h
  simp [okL] at this
  exact this.1
theorem valid_ne_nil {s : Bs} (h : validN s = true) : s ≠ [] := by rintro rfl; revert h; decide
end NP

/-
  Plain laws of valid zones: cuts and names.
-/
set_option linter.unusedSimpArgs false
set_option linter.unusedVariables false
set_option maxRecDepth 100000
namespace NP
open NQ Go
theorem zip_get {z : Zone} {i : Nat} {s : Signed} (h : z.sets[i]? = some s) (ho : Ordered z) : (behindOf z)[i]? = some (spec (highest z) s.set.name) := by
  rw [← behind_eq ho, behindR_spec ho, List.getElem?_map, h]; rfl
theorem behind_map {z : Zone} (ho : Ordered z) : behindOf z = z.sets.map fun s => spec (highest z) s.set.name := by
  rw [← behind_eq ho, behindR_spec ho]
/-- What the rules on cuts say of a set. -/
theorem cut_rule {z : Zone} (hv : validZ z = true) {s : Signed} (hs : s ∈ z.sets) : cutBad s (spec (highest z) s.set.name) = false := by
  have ho := validZ_ordered hv
  obtain ⟨i, hi⟩ := List.getElem?_of_mem hs
  simp only [validZ, Bool.and_eq_true] at hv
  have hc := hv.2.1.1.2
  simp only [cutsB, List.all_eq_true] at hc
  have := hc i (List.mem_range.2 (List.getElem?_eq_some_iff.1 hi).1)
  simp only [cutAt, hi, zip_get hi ho] at this
  simpa using this
theorem cutsL_iff (apex c : Bs) : ∀ (l : List Signed), c ∈ cutsL apex l ↔ ∃ s ∈ l, isCutAt apex s = true ∧ s.set.name = c
  | [] => by simp [cutsL]
  | s :: t => by
    have ih := cutsL_iff apex c t
    unfold cutsL
    split
    · rename_i h
      rw [List.mem_cons, ih]
      constructor
      · rintro (rfl | ⟨x, hx, k⟩)
        · exact ⟨s, List.mem_cons_self .., h, rfl⟩
        · exact ⟨x, List.mem_cons_of_mem _ hx, k⟩
      · rintro ⟨x, hx, k1, k2⟩
        rcases List.mem_cons.1 hx with rfl | hx
        · exact .inl k2.symm
        · exact .inr ⟨x, hx, k1, k2⟩
    · rename_i h
      rw [ih]
      constructor
      · rintro ⟨x, hx, k⟩; exact ⟨x, List.mem_cons_of_mem _ hx, k⟩
      · rintro ⟨x, hx, k1, k2⟩
        rcases List.mem_cons.1 hx with rfl | hx
        · exact absurd k1 h
        · exact ⟨x, hx, k1, k2⟩
theorem valid_bne {s : Bs} (h : validN s = true) : (s == []) = false := by have := valid_ne_nil h; simpa using this
/-- In a valid zone each cut is a highest one. -/
theorem cut_high {z : Zone} (hv : validZ z = true) {c : Bs} (hc : c ∈ cutsL z.apex z.sets) : c ∈ highest z := by
  have ho := validZ_ordered hv
  obtain ⟨hA, ha, hcov⟩ := high_facts ho
  obtain ⟨s, hs, hcut, rfl⟩ := (cutsL_iff _ _ _).1 hc
  obtain ⟨g, hg, hu⟩ := hcov _ hc
  have hsp := spec_of hA ha hg hu
  have hr := cut_rule hv hs
  rw [hsp] at hr
  have ht : s.set.type = 2 := by simp [isCutAt] at hcut; exact hcut.1
  unfold cutBad at hr
  rw [if_neg (by rw [valid_bne (high_valid ho hg)]; exact Bool.false_ne_true)] at hr
  split at hr
  · rename_i e; rw [← beq_iff_eq.1 e]; exact hg
  · rw [ht] at hr; cases hr
theorem has_cut {z : Zone} {n : Bs} (hne : n ≠ z.apex) : hasS z.sets ⟨n, 2⟩ = true ↔ n ∈ cutsL z.apex z.sets := by
  rw [cutsL_iff]
  simp only [hasS, List.any_eq_true, is, Bool.and_eq_true, beq_iff_eq, isCutAt, Bool.not_eq_true', beq_eq_false_iff_ne]
  constructor
  · rintro ⟨s, hs, h1, h2⟩; exact ⟨s, hs, ⟨h2, by rw [h1]; exact hne⟩, h1⟩
  · rintro ⟨s, hs, ⟨h1, _⟩, h2⟩; exact ⟨s, hs, h2, h1⟩
theorem under_trans {a b c : Bs} (h : underN a b = true) (k : underN b c = true) : underN a c = true := by
  rw [underN_iff] at *; exact k.trans h
theorem under_anti {a b : Bs} (h : underN a b = true) (k : underN b a = true) : a = b := by
  rw [underN_iff] at *
  exact back_inj ((k.eq_of_length (Nat.le_antisymm k.length_le h.length_le)))
theorem under_parent {n c : Bs} (hn : validN n = true) (h : underN n c = true) (hne : n ≠ c) : underN (parentN n) c = true := (under_up hn h hne).2.1
theorem parent_under {n : Bs} (hn : validN n = true) : underN n (parentN n) = true := by
  unfold underN; rw [labs_parent hn]; exact List.isSuffixOf_iff_suffix.2 (List.tail_suffix _)
theorem cutGo_some {z : Zone} : ∀ {f : Nat} {n c : Bs}, validN n = true → cutGo z f n = some c → c ∈ cutsL z.apex z.sets ∧ underN n c = true
  | 0, n, c, _, h => by simp [cutGo] at h
  | f + 1, n, c, hv, h => by
    unfold cutGo at h
    split at h
    · cases h
    · rename_i hne
      split at h
      · rename_i hh; cases h; exact ⟨(has_cut hne).1 hh, under_self n⟩
      · obtain ⟨h1, h2⟩ := cutGo_some (parent_valid hv) h
        exact ⟨h1, under_trans (parent_under hv) h2⟩
theorem cutGo_none {z : Zone} (ho : Ordered z) : ∀ {f : Nat} {n : Bs}, validN n = true → underN n z.apex = true → f = (labs n).length + 1 → cutGo z f n = none → ∀ c ∈ cutsL z.apex z.sets, underN n c = false
  | 0, n, _, _, hf, _ => by omega
  | f + 1, n, hv, hu, hf, h => by
    intro c hc
    obtain ⟨s, hs, hcut, hnm⟩ := (cutsL_iff _ _ _).1 hc
    have hca : underN c z.apex = true := by
      have := ho.under s hs
      unfold underR at this; rw [if_pos ⟨ho.name s hs, ho.apex⟩] at this; rw [← hnm]; exact this
    have hne' : c ≠ z.apex := by simp [isCutAt] at hcut; rw [← hnm]; exact hcut.2
    unfold cutGo at h
    split at h
    · rename_i e
      cases hun : underN n c with
      | false => rfl
      | true => rw [e] at hun; exact absurd (under_anti hca hun) hne'
    · rename_i hne
      split at h
      · cases h
      · rename_i hh
        obtain ⟨_, k2, k3⟩ := under_up hv hu hne
        have ih := cutGo_none ho (parent_valid hv) k2 (by omega) h c hc
        cases hun : underN n c with
        | false => rfl
        | true =>
          by_cases e : n = c
          · subst e; exact absurd ((has_cut hne).2 hc) hh
          · rw [under_parent hv hun e] at ih; cases ih
/-- The cut that a name is behind. -/
theorem cutZ_spec {z : Zone} (hv : validZ z = true) {n : Bs} (hn : validN n = true) (hu : underN n z.apex = true) :
    (cutZ z n = none ∧ spec (highest z) n = []) ∨ ∃ c, cutZ z n = some c ∧ spec (highest z) n = c ∧ c ∈ highest z ∧ c ≠ [] := by
  have ho := validZ_ordered hv
  obtain ⟨hA, ha, _⟩ := high_facts ho
  cases h : cutZ z n with
  | none => exact .inl ⟨rfl, spec_none fun c hc => cutGo_none ho hn hu rfl h c (high_mem hc)⟩
  | some c =>
    obtain ⟨h1, h2⟩ := cutGo_some hn h
    have h3 := cut_high hv h1
    exact .inr ⟨c, rfl, spec_of hA ha h3 h2, h3, valid_ne_nil (high_valid ho h3)⟩

theorem asc_snoc {l : List Bs} {n : Bs} (h : Asc l) (hn : ∀ a ∈ l, compareN a n < 0) : Asc (l ++ [n]) :=
  List.pairwise_append.2 ⟨h, List.pairwise_singleton _ _, fun a ha b hb => by rw [List.mem_singleton.1 hb]; exact hn a ha⟩
theorem nam_spec : ∀ (L : List (Signed × Bs)) (acc : List Bs), Asc acc → L.Pairwise (fun a b => compareN a.1.set.name b.1.set.name ≤ 0) → (∀ a ∈ acc, ∀ p ∈ L, compareN a p.1.set.name ≤ 0) →
    Asc (nam acc L) ∧ acc <+: nam acc L ∧ ∀ n, n ∈ nam acc L ↔ n ∈ acc ∨ ∃ p ∈ L, p.1.set.name = n ∧ namHid n p.2 = false
  | [], acc, h, _, _ => ⟨h, List.prefix_refl _, fun n => by simp [nam]⟩
  | (s, b) :: t, acc, h, hp, hle => by
    obtain ⟨p1, p2⟩ := List.pairwise_cons.1 hp
    unfold nam
    have hbase : ∀ a ∈ acc, ∀ p ∈ t, compareN a p.1.set.name ≤ 0 := fun a ha p hq => hle a ha p (List.mem_cons_of_mem _ hq)
    by_cases hh : namHid s.set.name b = true
    · rw [if_pos hh]
      obtain ⟨a1, a2, a3⟩ := nam_spec t acc h p2 hbase
      refine ⟨a1, a2, fun n => ?_⟩
      rw [a3 n]
      constructor
      · rintro (k | ⟨p, hp, k⟩)
        · exact .inl k
        · exact .inr ⟨p, List.mem_cons_of_mem _ hp, k⟩
      · rintro (k | ⟨p, hp, k1, k2⟩)
        · exact .inl k
        · rcases List.mem_cons.1 hp with rfl | hp
          · subst k1; exact absurd hh (by simp [k2])
          · exact .inr ⟨p, hp, k1, k2⟩
    · rw [if_neg hh]
      have hh' : namHid s.set.name b = false := by simpa using hh
      by_cases hnw : namNew acc s.set.name = true
      · rw [if_pos hnw]
        have hlt : ∀ a ∈ acc, compareN a s.set.name < 0 := fun a ha => by
          have hne : acc.length ≠ 0 := by intro e; rw [List.length_eq_zero_iff] at e; rw [e] at ha; cases ha
          have h1 := asc_last h hne a ha
          have h2 := hle (lastB acc) (lastB_mem hne) (s, b) (List.mem_cons_self ..)
          have h3 : lastB acc ≠ s.set.name := by
            simp only [namNew, Bool.or_eq_true, beq_iff_eq, Bool.not_eq_true', beq_eq_false_iff_ne] at hnw
            rcases hnw with k | k
            · omega
            · exact k
          have h4 : compareN (lastB acc) s.set.name < 0 := by
            rcases compareN_ord.range (lastB acc) s.set.name with e | e | e
            · omega
            · exact absurd ((compareN_ord.zero _ _).1 e) h3
            · simp only at h2; omega
          rcases compareN_ord.range a (lastB acc) with e | e | e
          · exact cN_trans (by omega) h4
          · rw [(compareN_ord.zero _ _).1 e]; exact h4
          · omega
        obtain ⟨a1, a2, a3⟩ := nam_spec t (acc ++ [s.set.name]) (asc_snoc h hlt) p2 fun a ha p hq => by
          rcases List.mem_append.1 ha with ha | ha
          · exact hbase a ha p hq
          · rw [List.mem_singleton.1 ha]; exact p1 p hq
        refine ⟨a1, (List.prefix_append _ _).trans a2, fun n => ?_⟩
        rw [a3 n]
        constructor
        · rintro (k | ⟨p, hp, k⟩)
          · rcases List.mem_append.1 k with k | k
            · exact .inl k
            · rw [List.mem_singleton.1 k]; exact .inr ⟨(s, b), List.mem_cons_self .., rfl, hh'⟩
          · exact .inr ⟨p, List.mem_cons_of_mem _ hp, k⟩
        · rintro (k | ⟨p, hp, k1, k2⟩)
          · exact .inl (List.mem_append_left _ k)
          · rcases List.mem_cons.1 hp with rfl | hp
            · subst k1; exact .inl (List.mem_append_right _ (List.mem_singleton.2 rfl))
            · exact .inr ⟨p, hp, k1, k2⟩
      · rw [if_neg hnw]
        have hin : s.set.name ∈ acc := by
          simp only [namNew, Bool.or_eq_true, beq_iff_eq, Bool.not_eq_true', beq_eq_false_iff_ne, not_or] at hnw
          have : lastB acc = s.set.name := Classical.byContradiction fun k => hnw.2 k
          rw [← this]; exact lastB_mem (by omega)
        obtain ⟨a1, a2, a3⟩ := nam_spec t acc h p2 hbase
        refine ⟨a1, a2, fun n => ?_⟩
        rw [a3 n]
        constructor
        · rintro (k | ⟨p, hp, k⟩)
          · exact .inl k
          · exact .inr ⟨p, List.mem_cons_of_mem _ hp, k⟩
        · rintro (k | ⟨p, hp, k1, k2⟩)
          · exact .inl k
          · rcases List.mem_cons.1 hp with rfl | hp
            · subst k1; exact .inl hin
            · exact .inr ⟨p, hp, k1, k2⟩
theorem zip_eq {z : Zone} (ho : Ordered z) : z.sets.zip (behindOf z) = z.sets.map fun s => (s, spec (highest z) s.set.name) := by
  rw [behind_map ho]
  induction z.sets with
  | nil => rfl
  | cons a t ih => simp [ih]
theorem names_spec {z : Zone} (hv : validZ z = true) : Asc (namesOf z) ∧ ∀ n, n ∈ namesOf z ↔ ∃ s ∈ z.sets, s.set.name = n ∧ (spec (highest z) n = [] ∨ spec (highest z) n = n) := by
  have ho := validZ_ordered hv
  unfold namesOf
  rw [zip_eq ho]
  obtain ⟨a1, _, a3⟩ := nam_spec (z.sets.map fun s => (s, spec (highest z) s.set.name)) [] List.Pairwise.nil (by
    rw [List.pairwise_map]; exact rising_pw ho.rising) (fun a ha => by cases ha)
  refine ⟨a1, fun n => ?_⟩
  rw [a3 n]
  simp only [List.mem_map, namHid, Bool.and_eq_false_iff, Bool.not_eq_false', beq_iff_eq]
  constructor
  · rintro (k | ⟨p, ⟨s, hs, rfl⟩, k1, k2⟩)
    · cases k
    · simp only at k1 k2; subst k1; exact ⟨s, hs, rfl, k2⟩
  · rintro ⟨s, hs, rfl, k⟩
    exact .inr ⟨_, ⟨s, hs, rfl⟩, rfl, k⟩
theorem set_under {z : Zone} (ho : Ordered z) {s : Signed} (hs : s ∈ z.sets) : underN s.set.name z.apex = true := by
  have := ho.under s hs
  unfold underR at this; rw [if_pos ⟨ho.name s hs, ho.apex⟩] at this; exact this
theorem names_first {z : Zone} (hv : validZ z = true) : ∃ t, namesOf z = z.apex :: t := by
  have ho := validZ_ordered hv
  obtain ⟨hA, hm⟩ := names_spec hv
  have hap : z.apex ∈ namesOf z := by
    have hh : hasS z.sets ⟨z.apex, 4⟩ = true := by
      have hv' := hv
      unfold validZ apexB at hv'; simp only [Bool.and_eq_true] at hv'; exact hv'.1.2.1.1
    simp only [hasS, List.any_eq_true, is, Bool.and_eq_true, beq_iff_eq] at hh
    obtain ⟨s, hs, h1, _⟩ := hh
    refine (hm _).2 ⟨s, hs, h1, .inl (spec_none fun c hc => ?_)⟩
    obtain ⟨x, hx, hcut, rfl⟩ := (cutsL_iff _ _ _).1 (high_mem hc)
    cases hun : underN z.apex x.set.name with
    | false => rfl
    | true =>
      have := under_anti hun (set_under ho hx)
      simp [isCutAt] at hcut
      exact absurd this.symm hcut.2
  cases hl : namesOf z with
  | nil => rw [hl] at hap; cases hap
  | cons a t =>
    rw [hl] at hap hA hm
    refine ⟨t, ?_⟩
    congr 1
    rcases List.mem_cons.1 hap with e | e
    · exact e.symm
    · have h1 := (List.pairwise_cons.1 hA).1 _ e
      obtain ⟨s, hs, h2, _⟩ := (hm a).1 (List.mem_cons_self ..)
      have h3 := stretch1 (set_under ho hs)
      rw [h2] at h3
      exact absurd h3 (cN_anti h1)
end NP

/-
  Plain laws of putting and dropping: order, membership; a valid zone said by its members.
-/
set_option linter.unusedSimpArgs false
set_option linter.unusedVariables false
set_option maxRecDepth 100000
namespace NP
open NQ Go
theorem cpl_self (p : Bs × Int) : cpl p p = 0 := (cpl_ord.zero _ _).2 rfl
theorem cpl_lt_ne {a b : Bs × Int} (h : cpl a b < 0) : a ≠ b := fun e => by subst e; rw [cpl_self] at h; omega
theorem cpl_asym {a b : Bs × Int} (h : cpl a b < 0) (k : cpl b a < 0) : False := by have := cpl_ord.anti a b; omega
abbrev RP (l : List Signed) : Prop := l.Pairwise fun a b => cpl a.place b.place < 0
theorem Rising.pw : ∀ {l : List Signed}, Rising l → RP l
  | [], _ => List.Pairwise.nil
  | x :: t, h => List.Pairwise.cons (rising_lt h) h.tail.pw
theorem RP.rising : ∀ {l : List Signed}, RP l → Rising l
  | [], _ => trivial
  | [_], _ => trivial
  | a :: b :: t, h => ⟨(List.pairwise_cons.1 h).1 b (List.mem_cons_self ..), RP.rising (List.pairwise_cons.1 h).2⟩
theorem RP.ext : ∀ {a b : List Signed}, RP a → RP b → (∀ x, x ∈ a ↔ x ∈ b) → a = b
  | [], [], _, _, _ => rfl
  | [], y :: b, _, _, h => by have := (h y).2 (List.mem_cons_self ..); cases this
  | x :: a, [], _, _, h => by have := (h x).1 (List.mem_cons_self ..); cases this
  | x :: a, y :: b, ha, hb, h => by
    obtain ⟨a1, a2⟩ := List.pairwise_cons.1 ha
    obtain ⟨b1, b2⟩ := List.pairwise_cons.1 hb
    have hxy : x = y := by
      rcases List.mem_cons.1 ((h x).1 (List.mem_cons_self ..)) with e | hx
      · exact e
      · rcases List.mem_cons.1 ((h y).2 (List.mem_cons_self ..)) with e | hy
        · exact e.symm
        · exact (cpl_asym (b1 x hx) (a1 y hy)).elim
    subst hxy
    congr 1
    refine RP.ext a2 b2 fun z => ⟨fun hz => ?_, fun hz => ?_⟩
    · rcases List.mem_cons.1 ((h z).1 (List.mem_cons_of_mem _ hz)) with rfl | hz'
      · exact (cpl_lt_ne (a1 _ hz) rfl).elim
      · exact hz'
    · rcases List.mem_cons.1 ((h z).2 (List.mem_cons_of_mem _ hz)) with rfl | hz'
      · exact (cpl_lt_ne (b1 _ hz) rfl).elim
      · exact hz'
theorem RP.uniq : ∀ {l : List Signed}, RP l → ∀ {a b : Signed}, a ∈ l → b ∈ l → a.place = b.place → a = b
  | [], _, _, _, ha, _, _ => by cases ha
  | x :: l, h, a, b, ha, hb, e => by
    obtain ⟨h1, h2⟩ := List.pairwise_cons.1 h
    rcases List.mem_cons.1 ha with ha' | ha' <;> rcases List.mem_cons.1 hb with hb' | hb'
    · rw [ha', hb']
    · subst ha'; exact (cpl_lt_ne (h1 b hb') e).elim
    · subst hb'; exact (cpl_lt_ne (h1 a ha') e.symm).elim
    · exact RP.uniq h2 ha' hb' e
theorem has_iff {l : List Signed} {q : Quest} : hasS l q = true ↔ ∃ s ∈ l, s.place = q.place := by
  simp only [hasS, List.any_eq_true, is_iff]
/-- Sets without one. -/
def rem (q : Quest) (l : List Signed) : List Signed := l.filter fun x => !is q x
theorem setB_type {s : RSet} (h : setB s = true) : 1 ≤ s.type ∧ s.type ≤ 8 := by
  unfold setB at h; simp only [Bool.and_eq_true, Bool.not_eq_true', Bool.or_eq_false_iff, Bool.not_eq_false'] at h
  have := h.1.1.1.1.2
  simp [within] at this; exact this
theorem alias_iff {z : Zone} (ho : Ordered z) : aliases z = true ↔ ∀ s ∈ z.sets, ∀ x ∈ z.sets, s.set.type = 3 → x.set.name = s.set.name → x.set.type = 3 ∨ x.set.type = 8 := by
  unfold aliases
  rw [List.all_eq_true]
  constructor
  · intro h s hs x hx h3 hn
    obtain ⟨i, hi⟩ := List.getElem?_of_mem hs
    obtain ⟨j, hj⟩ := List.getElem?_of_mem hx
    have hil := (List.getElem?_eq_some_iff.1 hi).1
    have hjl := (List.getElem?_eq_some_iff.1 hj).1
    obtain ⟨p, hp⟩ : ∃ p, z.sets[i - 1]? = some p := ⟨_, List.getElem?_eq_getElem (by omega)⟩
    have hok := h i (List.mem_range.2 hil)
    refine Decidable.byContradiction fun hno => ?_
    have hne3 : x.set.type ≠ 3 := fun e => hno (.inl e)
    have hne8 : x.set.type ≠ 8 := fun e => hno (.inr e)
    have hbad : aliAt z i = false := by
      refine (aliAt_no hi hp).2 ⟨h3, ?_⟩
      rcases Nat.lt_trichotomy j i with hlt | heq | hgt
      · left
        refine ⟨by omega, ?_⟩
        rcases Nat.lt_or_eq_of_le (show j ≤ i - 1 by omega) with k | k
        · have a1 := (place_lt (rising_at ho.rising k hj hp)).1
          have a2 := (place_lt (rising_at ho.rising (show i - 1 < i by omega) hp hi)).1
          rw [hn] at a1
          exact (cN_eq a1 a2).symm
        · rw [← k, hj] at hp; cases hp; exact hn
      · subst heq; rw [hi] at hj; cases hj; exact absurd h3 hne3
      · right
        rcases Nat.lt_or_eq_of_le (show i + 1 ≤ j by omega) with k | k
        · obtain ⟨y, hy⟩ : ∃ y, z.sets[i + 1]? = some y := ⟨_, List.getElem?_eq_getElem (by omega)⟩
          have a1 := place_lt (rising_at ho.rising k hy hj)
          have a2 := (place_lt (rising_at ho.rising (show i < i + 1 by omega) hi hy)).1
          have hyn : y.set.name = s.set.name := by
            have := a1.1; rw [hn] at this; exact cN_eq this a2
          refine ⟨y, hy, hyn, ?_⟩
          have := a1.2 (hyn.trans hn.symm)
          have := (setB_type (ho.set x hx)).2
          omega
        · exact ⟨x, by rw [k]; exact hj, hn, hne8⟩
    rw [hbad] at hok; cases hok
  · intro h i hi
    have hil := List.mem_range.1 hi
    obtain ⟨s, hs⟩ : ∃ s, z.sets[i]? = some s := ⟨_, List.getElem?_eq_getElem hil⟩
    obtain ⟨p, hp⟩ : ∃ p, z.sets[i - 1]? = some p := ⟨_, List.getElem?_eq_getElem (by omega)⟩
    cases hb : aliAt z i with
    | true => rfl
    | false =>
      obtain ⟨h3, k⟩ := (aliAt_no hs hp).1 hb
      have hsm := List.mem_of_getElem? hs
      rcases k with ⟨k1, k2⟩ | ⟨x, k1, k2, k3⟩
      · have := (place_lt (rising_at ho.rising (show i - 1 < i by omega) hp hs)).2 k2
        rcases h s hsm p (List.mem_of_getElem? hp) h3 k2 with e | e <;> omega
      · have := (place_lt (rising_at ho.rising (show i < i + 1 by omega) hs k1)).2 k2.symm
        rcases h s hsm x (List.mem_of_getElem? k1) h3 k2 with e | e
        · omega
        · exact absurd e k3
theorem range_all_mem {α : Type} {l : List α} {p : Nat → Bool} {q : α → Bool} (h : ∀ i s, l[i]? = some s → p i = q s) : (List.range l.length).all p = true ↔ ∀ s ∈ l, q s = true := by
  rw [List.all_eq_true]
  constructor
  · intro k s hs
    obtain ⟨i, hi⟩ := List.getElem?_of_mem hs
    rw [← h i s hi]
    exact k i (List.mem_range.2 (List.getElem?_eq_some_iff.1 hi).1)
  · intro k i hi
    have hi := List.mem_range.1 hi
    rw [h i _ (List.getElem?_eq_getElem hi)]
    exact k _ (List.getElem_mem hi)
theorem Ordered.bool {z : Zone} (h : Ordered z) : ordered z = true := by
  unfold ordered
  have hall : (List.range z.sets.length).all (ordAt z) = true := by
    rw [List.all_eq_true]
    intro i hi
    have hi := List.mem_range.1 hi
    obtain ⟨s, hs⟩ : ∃ s, z.sets[i]? = some s := ⟨_, List.getElem?_eq_getElem hi⟩
    obtain ⟨p, hp⟩ : ∃ p, z.sets[i - 1]? = some p := ⟨_, List.getElem?_eq_getElem (by omega)⟩
    have hsm := List.mem_of_getElem? hs
    have hpm := List.mem_of_getElem? hp
    rw [ordAt_eq hs hp, ordBad, h.set s hsm, h.under s hsm, cmpPl_eq _ _ (h.name p hpm) (h.name s hsm)]
    by_cases h0 : i = 0
    · subst h0; rfl
    · have := rising_at h.rising (show i - 1 < i by omega) hp hs
      have e : cpl (p.set.name, p.set.type) (s.set.name, s.set.type) < 0 := this
      have e2 : ¬ cpl (p.set.name, p.set.type) (s.set.name, s.set.type) ≥ 0 := by omega
      simp [e2]
  have hf : ¬ ((z.sets.length : Int) > 20000) := by have := h.few; omega
  rw [hall, h.apex, h.tame]
  simp [hf]
/-- A valid zone, said by its members. -/
structure Val (z : Zone) : Prop where
  ord : Ordered z
  start : hasS z.sets ⟨z.apex, 4⟩ = true
  serv : hasS z.sets ⟨z.apex, 2⟩ = true
  fit : ∀ s ∈ z.sets, fits s.set.type (s.set.name == z.apex) = true
  ali : ∀ s ∈ z.sets, ∀ x ∈ z.sets, s.set.type = 3 → x.set.name = s.set.name → x.set.type = 3 ∨ x.set.type = 8
  cut : ∀ s ∈ z.sets, cutBad s (spec (highest z) s.set.name) = false
  sig : ∀ s ∈ z.sets, sgnBad s (spec (highest z) s.set.name) = false
  form : ∀ s ∈ z.sets, inForm s.sigs z.apex = true
theorem fit_iff (z : Zone) : (List.range z.sets.length).all (fitAt z) = true ↔ ∀ s ∈ z.sets, fits s.set.type (s.set.name == z.apex) = true :=
  range_all_mem fun i s h => by unfold fitAt; rw [h]
theorem form_iff (z : Zone) : formB z = true ↔ ∀ s ∈ z.sets, inForm s.sigs z.apex = true :=
  range_all_mem fun i s h => by unfold frmAt; rw [h]
theorem cuts_rule {z : Zone} (ho : Ordered z) : cutsB z (behindOf z) = true ↔ ∀ s ∈ z.sets, cutBad s (spec (highest z) s.set.name) = false := by
  unfold cutsB
  rw [range_all_mem (q := fun s => !cutBad s (spec (highest z) s.set.name)) fun i s h => by unfold cutAt; rw [zip_get h ho, h]]
  simp only [Bool.not_eq_true']
theorem sigs_rule {z : Zone} (ho : Ordered z) : sigsB z (behindOf z) = true ↔ ∀ s ∈ z.sets, sgnBad s (spec (highest z) s.set.name) = false := by
  unfold sigsB
  rw [range_all_mem (q := fun s => !sgnBad s (spec (highest z) s.set.name)) fun i s h => by unfold sgnAt; rw [zip_get h ho, h]]
  simp only [Bool.not_eq_true']
theorem val_iff {z : Zone} : validZ z = true ↔ Val z := by
  constructor
  · intro h
    have ho := validZ_ordered h
    unfold validZ apexB at h
    simp only [Bool.and_eq_true] at h
    obtain ⟨⟨_, ⟨⟨a1, a2⟩, a3⟩⟩, ⟨⟨b1, b2⟩, b3⟩, b4⟩ := h
    exact ⟨ho, a1, a2, (fit_iff z).1 a3, (alias_iff ho).1 b1, (cuts_rule ho).1 b2, (sigs_rule ho).1 b3, (form_iff z).1 b4⟩
  · intro h
    unfold validZ apexB
    dsimp only
    rw [h.ord.bool, h.start, h.serv, (fit_iff z).2 h.fit, (alias_iff h.ord).2 h.ali, (cuts_rule h.ord).2 h.cut, (sigs_rule h.ord).2 h.sig, (form_iff z).2 h.form]
    rfl
theorem spec_cases {z : Zone} (ho : Ordered z) (n : Bs) : (spec (highest z) n = [] ∧ ∀ c ∈ cutsL z.apex z.sets, underN n c = false) ∨
    (spec (highest z) n ∈ cutsL z.apex z.sets ∧ underN n (spec (highest z) n) = true ∧ ∀ c ∈ cutsL z.apex z.sets, underN n c = true → underN c (spec (highest z) n) = true) := by
  obtain ⟨hA, ha, hg⟩ := high_facts ho
  by_cases he : ∃ h ∈ highest z, underN n h = true
  · obtain ⟨h, hm, hu⟩ := he
    have e := spec_of hA ha hm hu
    rw [e]
    refine .inr ⟨high_mem hm, hu, fun c hc hn => ?_⟩
    obtain ⟨g, hgm, hgu⟩ := hg c hc
    have e2 := spec_of hA ha hgm (under_trans hn hgu)
    rw [← e, e2]; exact hgu
  · have hno : ∀ h ∈ highest z, underN n h = false := fun h hm => by
      cases hu : underN n h with
      | false => rfl
      | true => exact (he ⟨h, hm, hu⟩).elim
    refine .inl ⟨spec_none hno, fun c hc => ?_⟩
    cases hu : underN n c with
    | false => rfl
    | true =>
      obtain ⟨g, hgm, hgu⟩ := hg c hc
      exact (he ⟨g, hgm, under_trans hu hgu⟩).elim
theorem cut_ne {z : Zone} (ho : Ordered z) {c : Bs} (h : c ∈ cutsL z.apex z.sets) : c ≠ [] ∧ c ≠ z.apex ∧ validN c = true ∧ underN c z.apex = true ∧ hasS z.sets ⟨c, 2⟩ = true := by
  obtain ⟨s, hs, h1, h2⟩ := (cutsL_iff _ _ _).1 h
  subst h2
  unfold isCutAt at h1
  simp only [Bool.and_eq_true, beq_iff_eq, Bool.not_eq_true', beq_eq_false_iff_ne] at h1
  exact ⟨valid_ne_nil (ho.name s hs), h1.2, ho.name s hs, set_under ho hs, has_iff.2 ⟨s, hs, by show (s.set.name, s.set.type) = _; rw [h1.1]; rfl⟩⟩
theorem spec_congr {z y : Zone} (hz : Ordered z) (hy : Ordered y) (h : ∀ c, c ∈ cutsL z.apex z.sets ↔ c ∈ cutsL y.apex y.sets) (n : Bs) : spec (highest z) n = spec (highest y) n := by
  rcases spec_cases hz n with ⟨a1, a2⟩ | ⟨a1, a2, a3⟩ <;> rcases spec_cases hy n with ⟨b1, b2⟩ | ⟨b1, b2, b3⟩
  · rw [a1, b1]
  · have := a2 _ ((h _).2 b1); rw [b2] at this; cases this
  · have := b2 _ ((h _).1 a1); rw [a2] at this; cases this
  · exact under_anti (b3 _ ((h _).1 a1) a2) (a3 _ ((h _).2 b1) b2)
end NP

/-
  Plain laws of Put and Drop: what they do with a valid zone.
-/
set_option linter.unusedSimpArgs false
set_option linter.unusedVariables false
set_option maxRecDepth 100000
namespace NP
open NQ Go
theorem quest_of {s : Signed} (h : setB s.set = true) : questB (qOf s) = true := by
  have h1 := setB_valid h
  have h2 := setB_type h
  unfold questB qOf
  simp only [h1, Bool.true_and, Bool.and_eq_true, decide_eq_true_eq]
  exact ⟨h2.1, h2.2⟩
theorem find_mem {z : Zone} (hv : validZ z = true) {s : Signed} (hs : s ∈ z.sets) : findR z (qOf s) = (s, true, 0) := by
  have ho := validZ_ordered hv
  have hh : hasS z.sets (qOf s) = true := has_iff.2 ⟨s, hs, rfl⟩
  obtain ⟨x, hx, hm, hp⟩ := found_ok ho (q := qOf s) (ho.name s hs) hh
  have e := ho.rising.pw.uniq hm hs hp
  subst e
  unfold findR
  rw [if_neg (by simp [quest_of (ho.set _ hs), hv]), if_neg (by simp [hh]), hx]
  rfl
theorem find_not {z : Zone} (hv : validZ z = true) {q : Quest} (hq : questB q = true) (h : hasS z.sets q = false) : findR z q = (zeroSg, false, 0) := by
  unfold findR
  rw [if_neg (by simp [hq, hv]), if_pos (by simp [h])]
theorem find_is {z : Zone} (hv : validZ z = true) {q : Quest} (hq : questB q = true) (h : hasS z.sets q = true) : ∃ s ∈ z.sets, s.place = q.place ∧ findR z q = (s, true, 0) := by
  obtain ⟨s, hs, e⟩ := has_iff.1 h
  refine ⟨s, hs, e, ?_⟩
  have : q = qOf s := by
    have e1 : s.set.name = q.name := congrArg Prod.fst e
    have e2 : s.set.type = q.type := congrArg Prod.snd e
    cases q; simp [qOf] at e1 e2 ⊢; exact ⟨e1.symm, e2.symm⟩
  rw [this]; exact find_mem hv hs
theorem val_spec {z : Zone} (hv : validZ z = true) {c n : Bs} (hc : c ∈ cutsL z.apex z.sets) (hu : underN n c = true) : spec (highest z) n = c := by
  obtain ⟨hA, ha, _⟩ := high_facts (validZ_ordered hv)
  exact spec_of hA ha (cut_high hv hc) hu
theorem cuts_sub {z y : Zone} (he : y.apex = z.apex) (h : ∀ x ∈ y.sets, x ∈ z.sets) {c : Bs} (hc : c ∈ cutsL y.apex y.sets) : c ∈ cutsL z.apex z.sets := by
  obtain ⟨s, hs, h1, h2⟩ := (cutsL_iff _ _ _).1 hc
  exact (cutsL_iff _ _ _).2 ⟨s, h s hs, he ▸ h1, h2⟩
theorem sub_valid {z y : Zone} (hv : validZ z = true) (he : y.apex = z.apex) (hy : Ordered y) (h : ∀ x ∈ y.sets, x ∈ z.sets) (h4 : hasS y.sets ⟨y.apex, 4⟩ = true) (h2 : hasS y.sets ⟨y.apex, 2⟩ = true) (hc : cutsB y (behindOf y) = true) : validZ y = true := by
  have V := val_iff.1 hv
  refine val_iff.2 ⟨hy, h4, h2, fun x hx => he ▸ V.fit x (h x hx), fun s hs x hx => V.ali s (h s hs) x (h x hx), (cuts_rule hy).1 hc, fun x hx => ?_, fun x hx => he ▸ V.form x (h x hx)⟩
  rcases spec_cases hy x.set.name with ⟨e, _⟩ | ⟨e1, e2, _⟩
  · rw [e]; simp [sgnBad]
  · have := V.sig x (h x hx)
    rwa [val_spec hv (cuts_sub he h e1) e2] at this
end NP

/-
  Plain laws of the reference's With, CutOf, NamesOf, At.
-/
set_option linter.unusedSimpArgs false
set_option linter.unusedVariables false
set_option maxRecDepth 100000
namespace NP
open NQ Go
theorem at_is {l : List Signed} {q : Quest} (h : hasS l q = true) : ∃ (k : Nat) (s : Signed), atI l q = k ∧ l[k]? = some s ∧ s.place = q.place := by
  unfold atI
  cases hf : l.findIdx? (is q) with
  | none =>
    rw [List.findIdx?_eq_none_iff] at hf
    unfold hasS at h
    rw [List.any_eq_true] at h
    obtain ⟨s, hs, e⟩ := h
    rw [hf s hs] at e; cases e
  | some k =>
    obtain ⟨h1, h2, _⟩ := List.findIdx?_eq_some_iff_getElem.1 hf
    exact ⟨k, l[k], rfl, List.getElem?_eq_getElem h1, (is_iff q _).1 h2⟩
/-- The first cut that a name is under. -/
def cutOfR (z : Zone) (n : Bs) : Bs := ((cutsL z.apex z.sets).find? fun c => underN n c).getD []
theorem cutOf_eq {z : Zone} (hv : validZ z = true) (n : Bs) : cutOfR z n = spec (highest z) n := by
  unfold cutOfR
  cases hf : (cutsL z.apex z.sets).find? fun c => underN n c with
  | none =>
    rw [List.find?_eq_none] at hf
    rcases spec_cases (validZ_ordered hv) n with ⟨e, _⟩ | ⟨e1, e2, _⟩
    · rw [e]; rfl
    · exact absurd e2 (hf _ e1)
  | some c =>
    have h1 := List.find?_some hf
    have h2 := List.mem_of_find?_eq_some hf
    rw [val_spec hv h2 h1]; rfl
theorem cutR_eq {z : Zone} {n : Bs} (hv : validZ z = true) (hn : validN n = true) (hu : underN n z.apex = true) : cutR z n = (cutOfR z n, !(cutOfR z n == []), 0) := by
  have ha := (validZ_ordered hv).apex
  have hu' : (underR n z.apex).1 = true := by unfold underR; rw [if_pos ⟨hn, ha⟩]; exact hu
  rw [cutOf_eq hv]
  unfold cutR
  rw [if_neg (by simp [hv, hn]), if_neg (by simp [hu'])]
  rcases cutZ_spec hv hn hu with ⟨e1, e2⟩ | ⟨c, e1, e2, _, e3⟩
  · rw [e1, e2]; rfl
  · rw [e1, e2]
    have : (c == []) = false := by simpa using e3
    rw [this]; rfl
theorem Asc.ext : ∀ {a b : List Bs}, Asc a → Asc b → (∀ x, x ∈ a ↔ x ∈ b) → a = b
  | [], [], _, _, _ => rfl
  | [], y :: b, _, _, h => by have := (h y).2 (List.mem_cons_self ..); cases this
  | x :: a, [], _, _, h => by have := (h x).1 (List.mem_cons_self ..); cases this
  | x :: a, y :: b, ha, hb, h => by
    obtain ⟨a1, a2⟩ := List.pairwise_cons.1 ha
    obtain ⟨b1, b2⟩ := List.pairwise_cons.1 hb
    have irr : ∀ c : Bs, ¬ compareN c c < 0 := fun c hc => by have := (compareN_ord.zero c c).2 rfl; omega
    have hxy : x = y := by
      rcases List.mem_cons.1 ((h x).1 (List.mem_cons_self ..)) with e | hx
      · exact e
      · rcases List.mem_cons.1 ((h y).2 (List.mem_cons_self ..)) with e | hy
        · exact e.symm
        · have h1 := b1 x hx
          have h2 := a1 y hy
          exact absurd (show compareN y x ≤ 0 by omega) (cN_anti h2)
    subst hxy
    congr 1
    refine Asc.ext a2 b2 fun z => ⟨fun hz => ?_, fun hz => ?_⟩
    · rcases List.mem_cons.1 ((h z).1 (List.mem_cons_of_mem _ hz)) with e | hz'
      · subst e; exact (irr _ (a1 _ hz)).elim
      · exact hz'
    · rcases List.mem_cons.1 ((h z).2 (List.mem_cons_of_mem _ hz)) with e | hz'
      · subst e; exact (irr _ (b1 _ hz)).elim
      · exact hz'
/-- The reference's names. -/
def ref (o : Bool) (s : Signed) : Bool := o || (s.set.type == 2)
def rnam : List Bs → List (Signed × Bool) → List Bs
  | acc, [] => acc
  | acc, (s, o) :: t => rnam (if (ref o s && namNew acc s.set.name) = true then acc ++ [s.set.name] else acc) t
def rnamesOf (z : Zone) : List Bs := rnam [] (z.sets.zip (ownL z))
def mark (s : Signed) (o : Bool) : Bs := if ref o s = true then [] else s.set.name ++ [0]
theorem mark_hid (s : Signed) (o : Bool) : namHid s.set.name (mark s o) = !ref o s := by
  unfold mark namHid
  cases ref o s with
  | true => simp
  | false => simp
theorem rnam_nam : ∀ (L : List (Signed × Bool)) (acc : List Bs), rnam acc L = nam acc (L.map fun p => (p.1, mark p.1 p.2))
  | [], acc => rfl
  | (s, o) :: t, acc => by
    rw [rnam, List.map_cons, nam, rnam_nam t]
    congr 1
    rw [mark_hid]
    cases ref o s <;> simp
theorem rnames_eq {z : Zone} (hv : validZ z = true) : rnamesOf z = namesOf z := by
  have ho := validZ_ordered hv
  have V := val_iff.1 hv
  obtain ⟨n1, n2⟩ := names_spec hv
  have hz : z.sets.zip (ownL z) = z.sets.map fun s => (s, ownB s.set.type (spec (highest z) s.set.name)) := by
    unfold ownL
    rw [behind_eq ho, zip_eq ho, List.map_map]
    generalize z.sets = l
    induction l with
    | nil => rfl
    | cons a t ih => rw [List.map_cons, List.zip_cons_cons, ih]; rfl
  have hs := nam_spec (z.sets.map fun s => (s, mark s (ownB s.set.type (spec (highest z) s.set.name)))) [] List.Pairwise.nil (by
    rw [List.pairwise_map]; exact (rising_pw ho.rising)) (fun a ha => by cases ha)
  unfold rnamesOf
  rw [hz, rnam_nam, List.map_map]
  obtain ⟨s1, _, s3⟩ := hs
  refine Asc.ext s1 n1 fun n => ?_
  rw [show (List.map ((fun p : Signed × Bool => (p.1, mark p.1 p.2)) ∘ fun s => (s, ownB s.set.type (spec (highest z) s.set.name))) z.sets) = (z.sets.map fun s => (s, mark s (ownB s.set.type (spec (highest z) s.set.name)))) from rfl, s3 n, n2 n]
  constructor
  · rintro (h | ⟨p, hp, e1, e2⟩)
    · cases h
    · obtain ⟨s, hs, rfl⟩ := List.mem_map.1 hp
      simp only at e1 e2
      subst e1
      rw [mark_hid] at e2
      refine ⟨s, hs, rfl, ?_⟩
      have hc := V.cut s hs
      by_cases h0 : spec (highest z) s.set.name = []
      · exact .inl h0
      · by_cases h1 : spec (highest z) s.set.name = s.set.name
        · exact .inr h1
        · exfalso
          have b0 : (spec (highest z) s.set.name == []) = false := by simpa using h0
          have b1 : (spec (highest z) s.set.name == s.set.name) = false := by simpa using h1
          unfold cutBad at hc
          rw [if_neg (by rw [b0]; simp), if_neg (by rw [b1]; simp)] at hc
          have ht : s.set.type = 1 := by simpa using hc
          simp [ref, ownB, b0, ht] at e2
  · rintro ⟨s, hs, rfl, h⟩
    rcases h with h | h
    · refine .inr ⟨(s, _), List.mem_map.2 ⟨s, hs, rfl⟩, rfl, ?_⟩
      rw [mark_hid, h]; simp [ref, ownB]
    · have hc : s.set.name ∈ cutsL z.apex z.sets := by
        rcases spec_cases ho s.set.name with ⟨e, _⟩ | ⟨e, _⟩
        · exact absurd (h.symm.trans e) (valid_ne_nil (ho.name s hs))
        · rwa [h] at e
      obtain ⟨x, hx, k1, k2⟩ := (cutsL_iff _ _ _).1 hc
      refine .inr ⟨(x, _), List.mem_map.2 ⟨x, hx, rfl⟩, k2, ?_⟩
      rw [← k2, mark_hid]
      unfold isCutAt at k1
      simp at k1
      simp [ref, k1]
end NP

/-
  Contracts of the reference of layer 6: Question, Valid, CutOf, NamesOf.
-/
set_option linter.unusedSimpArgs false
set_option linter.unusedVariables false
set_option maxRecDepth 100000
namespace Go.Proofs.YtjecmfajdofamaaGreatDoor
open NQ Go NP Go.RowKit

theorem rquest_fn (q : Quest) : NQ.Fn cx 31 [.agg (questD q)] (.d (.bool (questB q))) [] := by
  refine fn_of_vc tyOk mixed Tryz.func31 (by kernel_rfl) rfl (Nat.le_of_ble_eq_true rfl) ?_; conv => whnf
  (refine ⟨_, _, RValid_fn q.name, ?_⟩; conv => whnf)
  (refine bcase_intro (fun h => ?_) (fun h => ?_) <;> (rw [h]; conv => whnf))
  · have h1 := h
    (refine bcase_intro (fun h => ?_) (fun h => ?_) <;> (rw [h]; conv => whnf))
    · refine ret_data rfl ?_; show AV.d (D.bool _) = _; simp only [questB, *, if_true, if_false, Bool.false_eq_true, Bool.not_true, Bool.not_false, Bool.not_not, Bool.true_or, Bool.or_true, Bool.false_or, Bool.or_false, Bool.and_true, Bool.true_and, Bool.false_and, Bool.and_false]
    · refine ret_data rfl ?_; show AV.d (D.bool _) = _; simp only [questB, *, if_true, if_false, Bool.false_eq_true, Bool.not_true, Bool.not_false, Bool.not_not, Bool.true_or, Bool.or_true, Bool.false_or, Bool.or_false, Bool.and_true, Bool.true_and, Bool.false_and, Bool.and_false]
  · refine ret_data rfl ?_; show AV.d (D.bool _) = _; simp only [questB, *, if_true, if_false, Bool.false_eq_true, Bool.not_true, Bool.not_false, Bool.not_not, Bool.true_or, Bool.or_true, Bool.false_or, Bool.or_false, Bool.and_true, Bool.true_and, Bool.false_and, Bool.and_false]
theorem rvalid_fn (z : Zone) (hn : z.sets.length ≤ 100000) : NQ.Fn cx 62 [.agg (zoneD z)] (.d (.bool (validZ z))) [] := by
  have := validR_fn z hn
  rwa [valid_eq] at this
theorem cutOf_fn (z : Zone) (n : Bs) (hn : z.sets.length ≤ 100000) (hv : ∀ s ∈ z.sets, validN s.set.name = true) (hs : validN n = true) : NQ.Fn cx 112 [.agg (zoneD z), .str n] (.d (.str (cutOfR z n))) [] := by
  refine fn_of_vc tyOk mixed Tryz.func112 (by kernel_rfl) rfl (Nat.le_of_ble_eq_true rfl) ?_; conv => whnf
  (refine ⟨_, _, cuts_fn z hn, ?_⟩; conv => whnf)
  obtain ⟨l, hl0⟩ : ∃ l, l = cutsL z.apex z.sets := ⟨_, rfl⟩
  have hln : l.length ≤ 100000 := by rw [hl0]; exact Nat.le_trans (cutsL_length _ _) hn
  have hvl : ∀ c ∈ l, validN c = true := fun c hc => by
    rw [hl0] at hc
    obtain ⟨s, hs, e⟩ := cutsL_mem _ _ _ hc
    rw [← e]; exact hv s hs
  unfold cutOfR
  rw [← hl0]
  refine ⟨Nat, fun k => ⟨[(1, .d (.str n)), (5, .d (.slice 1 (l.map strD))), (6, .d (.int .i64 k))], []⟩, fun k => k ≤ l.length ∧ (l.drop k).find? (fun c => underN n c) = l.find? (fun c => underN n c), fun k => l.length - k,
    ⟨0, ⟨by omega, rfl⟩, Weak.keep ⟨⟨rfl, rfl⟩, ⟨rfl, rfl⟩, ⟨rfl, rfl⟩, trivial⟩ trivial⟩, fun k ⟨hk, hf⟩ => ?_⟩
  conv => whnf
  refine bcase_intro (fun h1 => ?_) (fun h1 => ?_) <;> (rw [h1]; conv => whnf)
  · have hlt : k < l.length := by simp at h1; omega
    obtain ⟨c, hc⟩ : ∃ s, l[k]? = some s := ⟨_, List.getElem?_eq_getElem hlt⟩
    rw [drop_cons hc, List.find?_cons] at hf
    refine ⟨Int.natCast_nonneg k, strD c, map_get hc, ?_⟩
    conv => whnf
    (refine ⟨_, _, RIn_fn n c (valid_len hs) (valid_len (hvl c (List.mem_of_getElem? hc))), ?_⟩; conv => whnf)
    (refine bcase_intro (fun h => ?_) (fun h => ?_) <;> (rw [h]; conv => whnf))
    · refine ⟨Int.natCast_nonneg k, strD c, map_get hc, ?_⟩
      conv => whnf
      refine ret_data rfl ?_
      rw [h] at hf; rw [← hf]; rfl
    · rw [h] at hf
      exact ⟨k + 1, ⟨hlt, hf⟩, by (show l.length - (k + 1) < l.length - k; omega), Weak.keep ⟨⟨rfl, rfl⟩, ⟨rfl, rfl⟩, ⟨wrap_succ (by omega), rfl⟩, trivial⟩ trivial⟩
  · obtain rfl : k = l.length := by simp at h1; omega
    refine ret_data rfl ?_
    rw [List.drop_length] at hf
    rw [← hf]; rfl
theorem namesOf_fn (z : Zone) (hv : validZ z = true) : NQ.Fn cx 83 [.agg (zoneD z)] (.d (.slice 1 ((namesOf z).map strD))) [] := by
  have ho := validZ_ordered hv
  have hn : z.sets.length ≤ 100000 := by have := ho.few; omega
  rw [← rnames_eq hv]
  have hb : (ownL z).length = z.sets.length := by unfold ownL behindR; simp [bGo_length]
  refine fn_of_vc tyOk mixed Tryz.func83 (by kernel_rfl) rfl (Nat.le_of_ble_eq_true rfl) ?_; conv => whnf
  (refine ⟨_, _, own_fn z hn ho.name, ?_⟩; conv => whnf)
  refine ⟨Nat × List Bs, fun x => ⟨[(1, .ptr 1 0), (3, .d (.slice 1 ((ownL z).map boolD))), (4, .own 100), (5, .d (.int .i64 x.1))],
      [(1, .box ((zoneD z).map .d)), (100, .row 9 1 (x.2.map strD))]⟩,
    fun x => x.1 ≤ z.sets.length ∧ x.2.length ≤ x.1 ∧ rnam x.2 ((z.sets.zip (ownL z)).drop x.1) = rnamesOf z, fun x => z.sets.length - x.1,
    ⟨(0, []), ⟨by simp, by simp, rfl⟩, (Weak.promote 4 100 1 9 1 rfl rfl (by decide)).trans (Weak.keep ⟨⟨rfl, rfl⟩, ⟨rfl, rfl⟩, ⟨rfl, rfl⟩, ⟨rfl, rfl⟩, trivial⟩ ⟨⟨rfl, rfl⟩, ⟨rfl, rfl⟩, trivial⟩)⟩, ?_⟩
  rintro ⟨k, acc⟩ ⟨hk, hl, hc⟩
  simp only at hk hl hc
  conv => whnf
  refine bcase_intro (fun h1 => ?_) (fun h1 => ?_) <;> (rw [h1]; conv => whnf)
  · have hlt : k < z.sets.length := by simp at h1; omega
    obtain ⟨s, hs⟩ : ∃ s, z.sets[k]? = some s := ⟨_, List.getElem?_eq_getElem hlt⟩
    obtain ⟨b, hb'⟩ : ∃ b, (ownL z)[k]? = some b := ⟨_, List.getElem?_eq_getElem (by omega)⟩
    have hdr : (z.sets.zip (ownL z)).drop k = (s, b) :: (z.sets.zip (ownL z)).drop (k + 1) := by
      rw [List.drop_eq_getElem_cons (by simp; omega)]
      congr 1
      rw [List.getElem_zip]
      obtain ⟨_, e1⟩ := List.getElem?_eq_some_iff.1 hs
      obtain ⟨_, e2⟩ := List.getElem?_eq_some_iff.1 hb'
      rw [e1, e2]
    rw [hdr, rnam] at hc
    refine ⟨Int.natCast_nonneg k, signedD s, map_get hs, ?_⟩
    conv => whnf
    clear hdr hb
    repeat' (first
      | (refine ⟨(by kernel_rfl : planOk _ _ = true), ?_⟩; conv => whnf)
      | (refine ⟨(k + 1, acc), ⟨hlt, by (simp; omega), (by (try simp only [List.length_map] at *); simp only [ref, namNew, *, if_true, if_false, Bool.false_eq_true, Bool.not_true, Bool.not_false, Bool.not_not, Bool.true_or, Bool.or_true, Bool.false_or, Bool.or_false, Bool.and_true, Bool.true_and, Bool.false_and, Bool.and_false] at hc; exact hc)⟩, by (show z.sets.length - (k + 1) < z.sets.length - k; omega), Weak.keep ⟨⟨rfl, rfl⟩, ⟨rfl, rfl⟩, ⟨rfl, rfl⟩, ⟨wrap_succ (by omega), rfl⟩, trivial⟩ ⟨⟨rfl, rfl⟩, ⟨rfl, rfl⟩, trivial⟩⟩; done)
      | (refine ⟨(k + 1, acc ++ [s.set.name]), ⟨hlt, by (simp; omega), (by (try simp only [List.length_map] at *); simp only [ref, namNew, *, if_true, if_false, Bool.false_eq_true, Bool.not_true, Bool.not_false, Bool.not_not, Bool.true_or, Bool.or_true, Bool.false_or, Bool.or_false, Bool.and_true, Bool.true_and, Bool.false_and, Bool.and_false] at hc; exact hc)⟩, by (show z.sets.length - (k + 1) < z.sets.length - k; omega), Weak.keep ⟨⟨rfl, rfl⟩, ⟨rfl, rfl⟩, ⟨rfl, rfl⟩, ⟨wrap_succ (by omega), rfl⟩, trivial⟩ ⟨⟨rfl, rfl⟩, ⟨by (show some (Blk.row _ _ (_ ++ _)) = some (Blk.row _ _ _); rw [List.map_append]; rfl), rfl⟩, trivial⟩⟩; done)
      | (refine bcase_intro (fun h => ?_) (fun h => ?_) <;> (rw [h]; conv => whnf))
      | (refine ⟨Int.natCast_nonneg k, boolD b, map_get hb', ?_⟩; conv => whnf)
      | (rw [last_wrap (acc := acc) (by omega) (by assumption)]; refine ⟨Int.natCast_nonneg _, last_lt (acc := acc) (by assumption), ?_⟩; conv => whnf)
      | (refine ⟨_, last_get (acc := acc) (by assumption), ?_⟩; conv => whnf)
      | (refine ⟨by (show (acc.map strD).length + 1 ≤ _; rw [List.length_map]; omega), by (show ((acc.map strD).length + 1) * 16 ≤ _; rw [List.length_map]; omega), ?_⟩; conv => whnf)
      | fail)
  · obtain rfl : k = z.sets.length := by simp at h1; omega
    refine ret_data rfl ?_
    rw [List.drop_eq_nil_of_le (by simp; omega), rnam] at hc
    rw [← hc]
    rfl
end Go.Proofs.YtjecmfajdofamaaGreatDoor

/-
  Package lookup on plain data: compare, isUnder, sort.Search, place, start, exists, slices.Contains.
-/
set_option linter.unusedSimpArgs false
set_option linter.unusedVariables false
set_option maxRecDepth 100000
namespace NP
open NQ Go
/-- A view of a zone. -/
structure View where
  apex : Bs
  sets : List Signed
  q : Quest
  cut : Bs
  behind : Bool
  wild : Bs
def plFrom : Nat → List Signed → List (List D × D)
  | _, [] => []
  | i, s :: t => (questD (qOf s), .int .i64 i) :: plFrom (i + 1) t
def viewD (v : View) : List D := [.str v.apex, .slice 5 (v.sets.map signedD), .kmap (plFrom 0 v.sets), .str v.q.name, .int .i64 v.q.type, .str v.cut, .bool v.behind, .str v.wild]
theorem km_cell (q : Quest) (s : Signed) : eqCells [.str, .int .i64] ((questD q).map .d) ((questD (qOf s)).map .d) = some (is q s) := by
  show some ((q.name == s.set.name) && ((q.type == s.set.type) && true)) = _
  rw [Bool.and_true]
  unfold is
  congr 1
  rw [Bool.beq_comm (a := q.name), Bool.beq_comm (a := q.type)]
theorem km_find (q : Quest) : ∀ (l : List Signed) (i : Nat), kmFind [.str, .int .i64] (questD q) (plFrom i l) = some ((l.findIdx? (is q)).map fun k => D.int .i64 ((i + k : Nat) : Int))
  | [], i => rfl
  | s :: t, i => by
    rw [plFrom, kmFind, km_cell]
    cases h : is q s with
    | true => simp [List.findIdx?_cons, h]
    | false =>
      simp only
      rw [km_find q t (i + 1), List.findIdx?_cons, h]
      simp only [Bool.false_eq_true, if_false]
      cases t.findIdx? (is q) <;> simp
      omega
/-- The index of the first set whose name does not come before a name. -/
def posN (l : List Signed) (n : Bs) : Nat := (l.takeWhile fun s => decide (compareN s.set.name n < 0)).length
theorem posN_le (l : List Signed) (n : Bs) : posN l n ≤ l.length := (List.takeWhile_sublist _).length_le
theorem posN_iff {n : Bs} : ∀ {l : List Signed}, l.Pairwise (fun a b => compareN a.set.name b.set.name ≤ 0) → ∀ {i : Nat} {s : Signed}, l[i]? = some s → (posN l n ≤ i ↔ 0 ≤ compareN s.set.name n)
  | [], _, i, s, h => by cases h
  | x :: l, hp, i, s, h => by
    obtain ⟨h1, h2⟩ := List.pairwise_cons.1 hp
    unfold posN
    rw [List.takeWhile_cons]
    by_cases hx : compareN x.set.name n < 0
    · rw [if_pos (by simpa using hx), List.length_cons]
      cases i with
      | zero => cases h; exact ⟨fun h => by omega, fun h => by omega⟩
      | succ i =>
        have := posN_iff (n := n) h2 (i := i) (s := s) (by simpa using h)
        unfold posN at this
        omega
    · rw [if_neg (by simpa using hx), List.length_nil]
      refine ⟨fun _ => ?_, fun _ => Nat.zero_le _⟩
      cases i with
      | zero => cases h; omega
      | succ i =>
        have hm : s ∈ l := List.mem_of_getElem? (i := i) (by simpa using h)
        have h3 := h1 s hm
        by_cases h4 : compareN s.set.name n < 0
        · exact absurd (compareN_ord.le_lt h3 h4) hx
        · omega
def exB (l : List Signed) (n : Bs) : Bool := match l[posN l n]? with | some s => (underR s.set.name n).1 | none => false
end NP
namespace Go.Proofs.YtjecmfajdofamaaGreatDoor
open NQ Go NP Go.RowKit

theorem lcompare_fn (a b : Bs) : NQ.Fn cx 227 [.str a, .str b] (.d (.int .i64 (compareR a b).1)) [] := by
  refine fn_of_vc tyOk mixed Tryz.func227 (by kernel_rfl) rfl (Nat.le_of_ble_eq_true rfl) ?_; conv => whnf
  (refine ⟨_, _, Compare_fn a b, ?_⟩; conv => whnf)
  exact ret_data rfl rfl
theorem lunder_fn (a b : Bs) : NQ.Fn cx 177 [.str a, .str b] (.d (.bool (underR a b).1)) [] := by
  refine fn_of_vc tyOk mixed Tryz.func177 (by kernel_rfl) rfl (Nat.le_of_ble_eq_true rfl) ?_; conv => whnf
  (refine ⟨_, _, Under_fn a b, ?_⟩; conv => whnf)
  exact ret_data rfl rfl
theorem search1_fn (n c : Nat) (x y : D) (hn : n ≤ 100000) (hc : c ≤ n) (hf : ∀ i : Nat, i < n → NQ.Fn cx 226 [.int .i64 i, x, y] (.d (.bool (decide (c ≤ i)))) []) :
    NQ.Fn cx 225 [.int .i64 n, .fn 226 [] [x, y]] (.d (.int .i64 c)) [] := by
  refine fn_of_vc tyOk mixed Tryz.func225 (by kernel_rfl) rfl (Nat.le_of_ble_eq_true rfl) ?_; conv => whnf
  refine ⟨Nat × Nat, fun z => ⟨[(1, .d (.fn 226 [] [x, y])), (5, .d (.int .i64 z.1)), (6, .d (.int .i64 z.2))], []⟩, fun z => z.1 ≤ c ∧ c ≤ z.2 ∧ z.2 ≤ n, fun z => z.2 - z.1,
    ⟨(0, n), ⟨Nat.zero_le _, hc, Nat.le_refl _⟩, Weak.keep ⟨⟨rfl, rfl⟩, ⟨rfl, rfl⟩, ⟨rfl, rfl⟩, trivial⟩ trivial⟩, ?_⟩
  rintro ⟨i, j⟩ ⟨h1, h2, h3⟩
  simp only at h1 h2 h3
  conv => whnf
  refine bcase_intro (fun hlt => ?_) (fun hlt => ?_) <;> (rw [hlt]; conv => whnf)
  · have hij : i < j := by simp at hlt; omega
    rw [mid_eq (by omega)]
    (refine ⟨_, _, hf ((i + j) / 2) (by omega), ?_⟩; conv => whnf)
    refine bcase_intro (fun h => ?_) (fun h => ?_) <;> (rw [h]; conv => whnf)
    · have hlt : (i + j) / 2 < c := by simp at h; omega
      exact ⟨((i + j) / 2 + 1, j), ⟨hlt, h2, h3⟩, by (show j - ((i + j) / 2 + 1) < j - i; omega), Weak.keep ⟨⟨rfl, rfl⟩, ⟨wrap_succ (by omega), rfl⟩, ⟨rfl, rfl⟩, trivial⟩ trivial⟩
    · have hle : c ≤ (i + j) / 2 := by simp at h; omega
      exact ⟨(i, (i + j) / 2), ⟨h1, hle, by (show (i + j) / 2 ≤ n; omega)⟩, by (show (i + j) / 2 - i < j - i; omega), Weak.keep ⟨⟨rfl, rfl⟩, ⟨rfl, rfl⟩, ⟨rfl, rfl⟩, trivial⟩ trivial⟩
  · obtain rfl : i = c := by simp at hlt; omega
    exact ret_data rfl rfl
theorem search2_fn (n c : Nat) (x y : D) (hn : n ≤ 100000) (hc : c ≤ n) (hf : ∀ i : Nat, i < n → NQ.Fn cx 261 [.int .i64 i, x, y] (.d (.bool (decide (c ≤ i)))) []) :
    NQ.Fn cx 225 [.int .i64 n, .fn 261 [] [x, y]] (.d (.int .i64 c)) [] := by
  refine fn_of_vc tyOk mixed Tryz.func225 (by kernel_rfl) rfl (Nat.le_of_ble_eq_true rfl) ?_; conv => whnf
  refine ⟨Nat × Nat, fun z => ⟨[(1, .d (.fn 261 [] [x, y])), (5, .d (.int .i64 z.1)), (6, .d (.int .i64 z.2))], []⟩, fun z => z.1 ≤ c ∧ c ≤ z.2 ∧ z.2 ≤ n, fun z => z.2 - z.1,
    ⟨(0, n), ⟨Nat.zero_le _, hc, Nat.le_refl _⟩, Weak.keep ⟨⟨rfl, rfl⟩, ⟨rfl, rfl⟩, ⟨rfl, rfl⟩, trivial⟩ trivial⟩, ?_⟩
  rintro ⟨i, j⟩ ⟨h1, h2, h3⟩
  simp only at h1 h2 h3
  conv => whnf
  refine bcase_intro (fun hlt => ?_) (fun hlt => ?_) <;> (rw [hlt]; conv => whnf)
  · have hij : i < j := by simp at hlt; omega
    rw [mid_eq (by omega)]
    (refine ⟨_, _, hf ((i + j) / 2) (by omega), ?_⟩; conv => whnf)
    refine bcase_intro (fun h => ?_) (fun h => ?_) <;> (rw [h]; conv => whnf)
    · have hlt : (i + j) / 2 < c := by simp at h; omega
      exact ⟨((i + j) / 2 + 1, j), ⟨hlt, h2, h3⟩, by (show j - ((i + j) / 2 + 1) < j - i; omega), Weak.keep ⟨⟨rfl, rfl⟩, ⟨wrap_succ (by omega), rfl⟩, ⟨rfl, rfl⟩, trivial⟩ trivial⟩
    · have hle : c ≤ (i + j) / 2 := by simp at h; omega
      exact ⟨(i, (i + j) / 2), ⟨h1, hle, by (show (i + j) / 2 ≤ n; omega)⟩, by (show (i + j) / 2 - i < j - i; omega), Weak.keep ⟨⟨rfl, rfl⟩, ⟨rfl, rfl⟩, ⟨rfl, rfl⟩, trivial⟩ trivial⟩
  · obtain rfl : i = c := by simp at hlt; omega
    exact ret_data rfl rfl
theorem place_fn (v : View) (n : Bs) (t : Int) : NQ.Fn cx 176 [.ptr (viewD v), .str n, .int .i64 t] (.d (.int .i64 (atI v.sets ⟨n, t⟩))) [] := by
  refine fn_of_vc tyOk mixed Tryz.func176 (by kernel_rfl) rfl (Nat.le_of_ble_eq_true rfl) ?_; conv => whnf
  have hk := km_find ⟨n, t⟩ v.sets 0
  unfold atI
  cases hf : v.sets.findIdx? (is ⟨n, t⟩) with
  | some k =>
    rw [hf] at hk
    refine ⟨some (.int .i64 k), by rw [Option.map_some, Nat.zero_add] at hk; exact hk, ?_⟩
    conv => whnf
    exact ret_data rfl rfl
  | none =>
    rw [hf] at hk
    refine ⟨none, hk, ?_⟩
    conv => whnf
    exact ret_data rfl rfl
theorem start_fn (v : View) : NQ.Fn cx 180 [.ptr (viewD v)] (.d (.int .i64 (atI v.sets ⟨v.apex, 4⟩))) [] := by
  refine fn_of_vc tyOk mixed Tryz.func180 (by kernel_rfl) rfl (Nat.le_of_ble_eq_true rfl) ?_; conv => whnf
  (refine ⟨_, _, place_fn v v.apex 4, ?_⟩; conv => whnf)
  exact ret_data rfl rfl
theorem exists1_fn (v : View) (n : Bs) (i : Nat) (s : Signed) (hs : v.sets[i]? = some s) : NQ.Fn cx 226 [.int .i64 i, .ptr [.ptr (viewD v)], .ptr [.str n]] (.d (.bool (decide ((compareR s.set.name n).1 ≥ 0)))) [] := by
  refine fn_of_vc tyOk mixed Tryz.func226 (by kernel_rfl) rfl (Nat.le_of_ble_eq_true rfl) ?_; conv => whnf
  (refine ⟨(by kernel_rfl : planOk _ _ = true), ?_⟩; conv => whnf)
  refine ⟨Int.natCast_nonneg i, signedD s, map_get hs, ?_⟩
  conv => whnf
  (refine ⟨_, _, lcompare_fn s.set.name n, ?_⟩; conv => whnf)
  exact ret_data rfl rfl
theorem exists_fn (v : View) (n : Bs) (hn : v.sets.length ≤ 100000) (hr : Rising v.sets) (hv : ∀ s ∈ v.sets, validN s.set.name = true) (hvn : validN n = true) : NQ.Fn cx 179 [.ptr (viewD v), .str n] (.d (.bool (exB v.sets n))) [] := by
  refine fn_of_vc tyOk mixed Tryz.func179 (by kernel_rfl) rfl (Nat.le_of_ble_eq_true rfl) ?_; conv => whnf
  have hp := rising_pw hr
  have hle := posN_le v.sets n
  have hS := search1_fn v.sets.length (posN v.sets n) (.ptr [.ptr (viewD v)]) (.ptr [.str n]) hn hle (fun i hi => by
    obtain ⟨s, hs⟩ : ∃ s, v.sets[i]? = some s := ⟨_, List.getElem?_eq_getElem hi⟩
    have h := exists1_fn v n i s hs
    have e : decide ((compareR s.set.name n).1 ≥ 0) = decide (posN v.sets n ≤ i) := by
      have hc : (compareR s.set.name n).1 = compareN s.set.name n := by unfold compareR; rw [if_pos ⟨hv s (List.mem_of_getElem? hs), hvn⟩]
      rw [hc, decide_eq_decide]
      exact (posN_iff hp hs).symm
    rwa [e] at h)
  have hl : ((v.sets.map signedD).length : Int) = (v.sets.length : Int) := by rw [List.length_map]
  rw [hl]
  refine ⟨_, hS, rfl, ?_⟩
  conv => whnf
  (refine ⟨(by kernel_rfl : planOk _ _ = true), ?_⟩; conv => whnf)
  rw [hl]
  unfold exB
  cases hg : v.sets[posN v.sets n]? with
  | none =>
    have : decide (((posN v.sets n : Nat) : Int) < (v.sets.length : Int)) = false := by
      rw [List.getElem?_eq_none_iff] at hg
      rw [decide_eq_false]; omega
    rw [this]
    conv => whnf
    exact ret_data rfl rfl
  | some s =>
    have : decide (((posN v.sets n : Nat) : Int) < (v.sets.length : Int)) = true := by
      have := (List.getElem?_eq_some_iff.1 hg).1
      rw [decide_eq_true]; omega
    rw [this]
    conv => whnf
    refine ⟨Int.natCast_nonneg _, signedD s, map_get hg, ?_⟩
    conv => whnf
    (refine ⟨_, _, lunder_fn s.set.name n, ?_⟩; conv => whnf)
    exact ret_data rfl rfl
theorem index_fn (l : List Int) (x : Int) (hl : l.length ≤ 100000) : NQ.Fn cx 231 [.slice 1 (l.map intD), .int .i64 x] (.d (.int .i64 (match l.findIdx? (· == x) with | some k => (k : Int) | none => -1))) [] := by
  refine fn_of_vc tyOk mixed Tryz.func231 (by kernel_rfl) rfl (Nat.le_of_ble_eq_true rfl) ?_; conv => whnf
  refine ⟨Nat, fun k => ⟨[(0, .d (.slice 1 (l.map intD))), (1, .d (.int .i64 x)), (7, .d (.int .i64 ((l.map intD).length : Int))), (8, .d (.int .i64 k))], []⟩, fun k => k ≤ l.length ∧ ∀ j y, j < k → l[j]? = some y → (y == x) = false, fun k => l.length - k,
    ⟨0, ⟨by omega, fun j y h => by omega⟩, Weak.keep ⟨⟨rfl, rfl⟩, ⟨rfl, rfl⟩, ⟨rfl, rfl⟩, ⟨rfl, rfl⟩, trivial⟩ trivial⟩, fun k ⟨hk, hall⟩ => ?_⟩
  conv => whnf
  refine bcase_intro (fun h1 => ?_) (fun h1 => ?_) <;> (rw [h1]; conv => whnf)
  · have hlt : k < l.length := by simp at h1; omega
    obtain ⟨y, hy⟩ : ∃ s, l[k]? = some s := ⟨_, List.getElem?_eq_getElem hlt⟩
    refine ⟨Int.natCast_nonneg k, intD y, map_get hy, ?_⟩
    conv => whnf
    (refine bcase_intro (fun h => ?_) (fun h => ?_) <;> (rw [h]; conv => whnf))
    · refine ret_data rfl ?_
      have : l.findIdx? (· == x) = some k := by
        rw [List.findIdx?_eq_some_iff_getElem]
        refine ⟨hlt, ?_, fun j hj => ?_⟩
        · obtain ⟨_, e⟩ := List.getElem?_eq_some_iff.1 hy
          rw [e]; simp at h ⊢; exact h.symm
        · have := hall j l[j] hj (List.getElem?_eq_getElem (by omega))
          simpa using this
      rw [this]; rfl
    · refine ⟨k + 1, ⟨hlt, fun j z hj hz => ?_⟩, by (show l.length - (k + 1) < l.length - k; omega), Weak.keep ⟨⟨rfl, rfl⟩, ⟨rfl, rfl⟩, ⟨rfl, rfl⟩, ⟨wrap_succ (by omega), rfl⟩, trivial⟩ trivial⟩
      rcases Nat.lt_or_eq_of_le (Nat.le_of_lt_succ hj) with h2 | rfl
      · exact hall j z h2 hz
      · rw [hy] at hz; cases hz
        simp at h ⊢; exact fun e => h e.symm
  · obtain rfl : k = l.length := by simp at h1; omega
    refine ret_data rfl ?_
    have : l.findIdx? (· == x) = none := by
      rw [List.findIdx?_eq_none_iff]
      intro y hy
      obtain ⟨j, hj⟩ := List.getElem?_of_mem hy
      exact hall j y (List.getElem?_eq_some_iff.1 hj).1 hj
    rw [this]; rfl
theorem contains_fn (l : List Int) (x : Int) (hl : l.length ≤ 100000) : NQ.Fn cx 186 [.slice 1 (l.map intD), .int .i64 x] (.d (.bool (l.contains x))) [] := by
  refine fn_of_vc tyOk mixed Tryz.func186 (by kernel_rfl) rfl (Nat.le_of_ble_eq_true rfl) ?_; conv => whnf
  (refine ⟨_, _, index_fn l x hl, ?_⟩; conv => whnf)
  refine ret_data rfl ?_
  show AV.d (D.bool (decide ((match l.findIdx? (· == x) with | some k => (k : Int) | none => -1) ≥ 0))) = _
  congr 2
  cases h : l.findIdx? (· == x) with
  | some k =>
    obtain ⟨h1, h2, _⟩ := List.findIdx?_eq_some_iff_getElem.1 h
    have : l.contains x = true := by
      rw [List.contains_iff_mem]
      have e : l[k] = x := by simpa using h2
      exact e ▸ List.getElem_mem h1
    rw [this, decide_eq_true]; exact Int.natCast_nonneg k
  | none =>
    have : l.contains x = false := by
      rw [← Bool.not_eq_true, List.contains_iff_mem]
      intro hm
      have := List.findIdx?_eq_none_iff.1 h x hm
      simp at this
    rw [this]; rfl
end Go.Proofs.YtjecmfajdofamaaGreatDoor

/-
  Package lookup on plain data: the answer of some places of a view.
-/
set_option linter.unusedSimpArgs false
set_option linter.unusedVariables false
set_option maxRecDepth 100000
namespace NP
open NQ Go
structure Ans where
  kind : Int
  sets : List Signed
  cut : Bs
  deriving DecidableEq
def ansD (a : Ans) : List D := [.int .i64 a.kind, .slice 5 (a.sets.map signedD), .str a.cut]
/-- The sets of some places, each once. -/
def pickS (l : List Signed) : List Int → List Int → List Signed
  | _, [] => []
  | seen, p :: t => if (decide (p < 0) || seen.contains p) = true then pickS l (seen ++ [p]) t else (l[p.toNat]?).getD zeroSg :: pickS l (seen ++ [p]) t
end NP
namespace Go.Proofs.YtjecmfajdofamaaGreatDoor
open NQ Go NP Go.RowKit

theorem rows_takeI (l : List Int) (k : Nat) : ((l.map intD).drop ((0 : Nat) : Int).toNat).take (((k : Nat) : Int).toNat - ((0 : Nat) : Int).toNat) = (l.take k).map intD := by
  simp [List.map_take]
theorem answer_fnb (v : View) (kind : Int) (ps : List Int) (hn : ps.length ≤ 1000) (hp : ∀ p ∈ ps, p < v.sets.length) (hs : ∀ s ∈ v.sets, Small s) :
    FnB cx 178 (viewD v) [.int .i64 kind, .slice 1 (ps.map intD)] (.agg ((ansD ⟨kind, pickS v.sets [] ps, []⟩).map .d)) (viewD v) := by
  refine fnb_of_vcz (fun _ => []) tyOk mixed Tryz.func178 (by kernel_rfl) rfl (Nat.le_of_ble_eq_true rfl) (Nat.le_of_ble_eq_true rfl) ?_; conv => whnf
  refine ⟨Nat × List Signed, fun x => ⟨[(0, .ptr 100000 0), (2, .d (.slice 1 (ps.map intD))), (6, .ptr 6 0), (7, .ptr 7 0), (13, .d (.slice 1 (ps.map intD))), (14, .d (.int .i64 ((ps.map intD).length : Int))), (15, .d (.int .i64 x.1))],
      [(100000, .box ((viewD v).map .d)), (6, .box [.d (.int .i64 0), .nil 5, .d (.str [])]), (7, .box [.d (.int .i64 kind), .own 200, .d (.str [])]), (200, .row 40 5 (x.2.map signedD))]⟩,
    fun x => x.1 ≤ ps.length ∧ x.2.length ≤ x.1 ∧ x.2 ++ pickS v.sets (ps.take x.1) (ps.drop x.1) = pickS v.sets [] ps, fun x => ps.length - x.1,
    ⟨(0, []), ⟨by omega, by simp, by simp⟩, (Weak.promoteBox 7 1 200 5 [.d (.int .i64 kind), .nil 5, .d (.str [])] 40 5 rfl rfl rfl (by decide)).trans (Weak.keep ⟨⟨rfl, rfl⟩, ⟨rfl, rfl⟩, ⟨rfl, rfl⟩, ⟨rfl, rfl⟩, ⟨rfl, rfl⟩, ⟨rfl, rfl⟩, ⟨rfl, rfl⟩, trivial⟩ ⟨⟨rfl, rfl⟩, ⟨rfl, rfl⟩, ⟨rfl, rfl⟩, ⟨rfl, rfl⟩, trivial⟩)⟩, ?_⟩
  rintro ⟨k, acc⟩ ⟨hk, hl, hc⟩
  simp only at hk hl hc
  conv => whnf
  refine bcase_intro (fun h1 => ?_) (fun h1 => ?_) <;> (rw [h1]; conv => whnf)
  · have hlt : k < ps.length := by simp at h1; omega
    obtain ⟨p, hpk⟩ : ∃ p, ps[k]? = some p := ⟨_, List.getElem?_eq_getElem hlt⟩
    rw [drop_cons hpk, pickS, ← take_snoc hpk] at hc
    refine ⟨Int.natCast_nonneg k, intD p, map_get hpk, ?_⟩
    conv => whnf
    have skip : (decide (p < 0) || (ps.take k).contains p) = true → ∀ st, Weak cx st ⟨[(0, .ptr 100000 0), (2, .d (.slice 1 (ps.map intD))), (6, .ptr 6 0), (7, .ptr 7 0), (13, .d (.slice 1 (ps.map intD))), (14, .d (.int .i64 ((ps.map intD).length : Int))), (15, .d (.int .i64 ((k + 1 : Nat) : Int)))],
      [(100000, .box ((viewD v).map .d)), (6, .box [.d (.int .i64 0), .nil 5, .d (.str [])]), (7, .box [.d (.int .i64 kind), .own 200, .d (.str [])]), (200, .row 40 5 (acc.map signedD))]⟩ →
      ∃ y : Nat × List Signed, (y.1 ≤ ps.length ∧ y.2.length ≤ y.1 ∧ y.2 ++ pickS v.sets (ps.take y.1) (ps.drop y.1) = pickS v.sets [] ps) ∧ ps.length - y.1 < ps.length - k ∧ Weak cx st ⟨[(0, .ptr 100000 0), (2, .d (.slice 1 (ps.map intD))), (6, .ptr 6 0), (7, .ptr 7 0), (13, .d (.slice 1 (ps.map intD))), (14, .d (.int .i64 ((ps.map intD).length : Int))), (15, .d (.int .i64 y.1))],
      [(100000, .box ((viewD v).map .d)), (6, .box [.d (.int .i64 0), .nil 5, .d (.str [])]), (7, .box [.d (.int .i64 kind), .own 200, .d (.str [])]), (200, .row 40 5 (y.2.map signedD))]⟩ := fun hb st hw => by
      rw [if_pos hb] at hc
      exact ⟨(k + 1, acc), ⟨hlt, by (show acc.length ≤ k + 1; omega), hc⟩, by (show ps.length - (k + 1) < ps.length - k; omega), hw⟩
    (refine bcase_intro (fun h => ?_) (fun h => ?_) <;> (rw [h]; conv => whnf))
    · exact skip (by rw [h]; rfl) _ (Weak.keep ⟨⟨rfl, rfl⟩, ⟨rfl, rfl⟩, ⟨rfl, rfl⟩, ⟨rfl, rfl⟩, ⟨rfl, rfl⟩, ⟨rfl, rfl⟩, ⟨wrap_succ (by omega), rfl⟩, trivial⟩ ⟨⟨rfl, rfl⟩, ⟨rfl, rfl⟩, ⟨rfl, rfl⟩, ⟨rfl, rfl⟩, trivial⟩)
    have hp0 := h
    refine ⟨by omega, by omega, by (rw [List.length_map]; omega), ?_⟩
    conv => whnf
    rw [rows_takeI]
    (refine ⟨_, _, contains_fn (ps.take k) p (by (rw [List.length_take]; omega)), ?_⟩; conv => whnf)
    (refine bcase_intro (fun h => ?_) (fun h => ?_) <;> (rw [h]; conv => whnf))
    · exact skip (by rw [h, Bool.or_true]) _ (Weak.keep ⟨⟨rfl, rfl⟩, ⟨rfl, rfl⟩, ⟨rfl, rfl⟩, ⟨rfl, rfl⟩, ⟨rfl, rfl⟩, ⟨rfl, rfl⟩, ⟨wrap_succ (by omega), rfl⟩, trivial⟩ ⟨⟨rfl, rfl⟩, ⟨rfl, rfl⟩, ⟨rfl, rfl⟩, ⟨rfl, rfl⟩, trivial⟩)
    have hge : 0 ≤ p := by simp at hp0; omega
    have hplt := hp p (List.mem_of_getElem? hpk)
    obtain ⟨s, hsp⟩ : ∃ s, v.sets[p.toNat]? = some s := ⟨_, List.getElem?_eq_getElem (by omega)⟩
    have hsm := hs s (List.mem_of_getElem? hsp)
    rw [if_neg (by rw [hp0, h]; simp), hsp] at hc
    refine ⟨hge, signedD s, by (rw [List.getElem?_map, hsp]; rfl), ?_⟩
    conv => whnf
    (refine ⟨_, _, cloneData_fn _ (by simpa using hsm.1), ?_⟩; conv => whnf)
    (refine ⟨_, _, cloneSigs_fn _ (by simpa using hsm.2), ?_⟩; conv => whnf)
    refine ⟨by (show (acc.map signedD).length + 1 ≤ _; rw [List.length_map]; omega), by (show ((acc.map signedD).length + 1) * 80 ≤ _; rw [List.length_map]; omega), ?_⟩
    conv => whnf
    refine ⟨(k + 1, acc ++ [s]), ⟨hlt, by (simp; omega), by (rw [← hc]; simp)⟩, by (show ps.length - (k + 1) < ps.length - k; omega), Weak.keep ⟨⟨rfl, rfl⟩, ⟨rfl, rfl⟩, ⟨rfl, rfl⟩, ⟨rfl, rfl⟩, ⟨rfl, rfl⟩, ⟨rfl, rfl⟩, ⟨wrap_succ (by omega), rfl⟩, trivial⟩ ⟨⟨rfl, rfl⟩, ⟨rfl, rfl⟩, ⟨rfl, rfl⟩, ⟨by (show some (Blk.row _ _ (_ ++ _)) = some (Blk.row _ _ _); rw [List.map_append]; rfl), rfl⟩, trivial⟩⟩
  · obtain rfl : k = ps.length := by simp at h1; omega
    rw [List.drop_length, pickS, List.append_nil] at hc
    refine ⟨[200], _, _, rfl, ?_, rfl, rfl⟩
    rw [← hc]
    rfl
end Go.Proofs.YtjecmfajdofamaaGreatDoor
