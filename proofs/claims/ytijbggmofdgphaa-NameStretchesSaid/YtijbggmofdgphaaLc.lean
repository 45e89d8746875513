/-
  The walks of the laws NameStretches and NameCommon.
-/
import Derived.Test.YtijbggmofdgphaaLb
namespace Go.Proofs.Ytijbggmofdgphaa
open Go.RowKit Go.Shelf NP

theorem stretch1 {a z : Bs} (h : underN a z = true) : compareN z a ≤ 0 := by
  rw [underN_iff] at h
  obtain ⟨t, ht⟩ := h
  unfold compareN
  rw [← ht]
  exact cmpList_pre compareBytes_ord _ _
theorem stretch2 {a b c z : Bs} (ha : underN a z = true) (hc : underN c z = true) (h1 : compareN a b ≤ 0) (h2 : compareN b c ≤ 0) : underN b z = true := by
  rw [underN_iff] at ha hc ⊢
  obtain ⟨s, hs⟩ := ha
  obtain ⟨t, ht⟩ := hc
  unfold compareN at h1 h2
  rw [← hs] at h1
  rw [← ht] at h2
  exact cmpList_between compareBytes_ord _ _ _ _ h1 h2

set_option maxRecDepth 100000 in
set_option maxHeartbeats 4000000 in
theorem NameStretches_walk (a b c z : ByteArray) (w : World) :
    Calls Try.prog 5 #[.string a, .string b, .string c, .string z] w fun e w' => e = .returned (.bool true) ∧ Below w.heap.size w w' := by
  go_enter Try.func5, Try.ntmps5
  go_wp2_with fail
  refine (head_calls _).mono ?_
  rintro e w1 ⟨rfl, hb1⟩
  go_wp2_with fail
  refine (names_calls _ [S a, S b, S c, S z] (by simp) (by simp) _ (strs4 _ _ _ _ _ _)).mono ?_
  rintro e w2 ⟨rfl, hb2⟩
  have hB := below_alloc hb1 hb2
  clear hb1 hb2
  by_cases hall : ([S a, S b, S c, S z] : List Bs).all validN = true
  rotate_left
  · have hall' : ([S a, S b, S c, S z] : List Bs).all validN = false := by simpa using hall
    rw [hall']
    clear hall hall'
    go_wp2
    go_ret
    exact ⟨rfl, hB⟩
  rw [hall]
  simp only [List.all_cons, List.all_nil, Bool.and_true, Bool.and_eq_true] at hall
  obtain ⟨va, vb, vc, vz⟩ := hall
  have s1 := @stretch1 (S a) (S z)
  have s2 := @stretch2 (S a) (S b) (S c) (S z)
  obtain ⟨x, hx⟩ : ∃ x, compareN (S z) (S a) = x := ⟨_, rfl⟩
  obtain ⟨p, hp⟩ : ∃ p, compareN (S a) (S b) = p := ⟨_, rfl⟩
  obtain ⟨q, hq⟩ : ∃ q, compareN (S b) (S c) = q := ⟨_, rfl⟩
  rw [hx] at s1
  rw [hp, hq] at s2
  cases uaz : underN (S a) (S z) with
  | false =>
    clear s1 s2
    rcases (by omega : 0 < p ∨ (p ≤ 0 ∧ 0 < q) ∨ (p ≤ 0 ∧ q ≤ 0)) with h | ⟨h, h'⟩ | ⟨h, h'⟩
    all_goals
      go_wp2_with (first | (go_at_call 13; refine (under_calls _ _ (by assumption) (by assumption) _).mono ?_; rintro e w' ⟨rfl, hb'⟩; replace hB := below_step hB hb'; clear hb') | (go_at_call 11; refine (compare_calls _ _ (by assumption) (by assumption) _).mono ?_; rintro e w' ⟨rfl, hb'⟩; replace hB := below_step hB hb'; clear hb'))
      go_ret
      exact ⟨rfl, hB⟩
  | true =>
    have x0 := s1 uaz
    rcases (by omega : 0 < p ∨ (p ≤ 0 ∧ 0 < q) ∨ (p ≤ 0 ∧ q ≤ 0)) with h | ⟨h, h'⟩ | ⟨h, h'⟩
    · clear s1 s2
      go_wp2_with (first | (go_at_call 13; refine (under_calls _ _ (by assumption) (by assumption) _).mono ?_; rintro e w' ⟨rfl, hb'⟩; replace hB := below_step hB hb'; clear hb') | (go_at_call 11; refine (compare_calls _ _ (by assumption) (by assumption) _).mono ?_; rintro e w' ⟨rfl, hb'⟩; replace hB := below_step hB hb'; clear hb'))
      go_ret
      exact ⟨rfl, hB⟩
    · clear s1 s2
      go_wp2_with (first | (go_at_call 13; refine (under_calls _ _ (by assumption) (by assumption) _).mono ?_; rintro e w' ⟨rfl, hb'⟩; replace hB := below_step hB hb'; clear hb') | (go_at_call 11; refine (compare_calls _ _ (by assumption) (by assumption) _).mono ?_; rintro e w' ⟨rfl, hb'⟩; replace hB := below_step hB hb'; clear hb'))
      go_ret
      exact ⟨rfl, hB⟩
    · cases ucz : underN (S c) (S z) with
      | false =>
        clear s1 s2
        go_wp2_with (first | (go_at_call 13; refine (under_calls _ _ (by assumption) (by assumption) _).mono ?_; rintro e w' ⟨rfl, hb'⟩; replace hB := below_step hB hb'; clear hb') | (go_at_call 11; refine (compare_calls _ _ (by assumption) (by assumption) _).mono ?_; rintro e w' ⟨rfl, hb'⟩; replace hB := below_step hB hb'; clear hb'))
        go_ret
        exact ⟨rfl, hB⟩
      | true =>
        have ubz := s2 uaz ucz h h'
        clear s1 s2
        go_wp2_with (first | (go_at_call 13; refine (under_calls _ _ (by assumption) (by assumption) _).mono ?_; rintro e w' ⟨rfl, hb'⟩; replace hB := below_step hB hb'; clear hb') | (go_at_call 11; refine (compare_calls _ _ (by assumption) (by assumption) _).mono ?_; rintro e w' ⟨rfl, hb'⟩; replace hB := below_step hB hb'; clear hb'))
        go_ret
        exact ⟨rfl, hB⟩
end Go.Proofs.Ytijbggmofdgphaa
