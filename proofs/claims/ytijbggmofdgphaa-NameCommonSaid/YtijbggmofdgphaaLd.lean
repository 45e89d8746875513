/-
  The walk of the law NameCommon.
-/
import Derived.Test.YtijbggmofdgphaaLb
namespace NP
theorem back_nameOf {l : List Bs} (h : okL l.reverse = true) : back (nameOf l.reverse) = l := by
  rw [back_eq, labs_nameOf h, List.reverse_reverse]
theorem lcp_ok {a : Bs} (b : Bs) (ha : validN a = true) : okL (lcp (back a) (back b)).reverse = true := by
  have h := lcp_left (back a) (back b)
  rw [back_eq a, ← List.reverse_suffix, List.reverse_reverse] at h
  rw [back_eq a]
  exact okL_suffix h (valid_okL ha)
theorem back_common {a : Bs} (b : Bs) (ha : validN a = true) : back (commonN a b) = lcp (back a) (back b) := back_nameOf (lcp_ok b ha)
theorem common_valid {a : Bs} (b : Bs) (ha : validN a = true) : validN (commonN a b) = true := by
  have h := lcp_left (back a) (back b)
  rw [back_eq a, ← List.reverse_suffix, List.reverse_reverse] at h
  have := valid_suffix h ha
  rw [← back_eq a] at this
  exact this
theorem common_comm (a b : Bs) : commonN a b = commonN b a := by unfold commonN; rw [lcp_comm]
theorem common_left {a : Bs} (b : Bs) (ha : validN a = true) : underN a (commonN a b) = true := by
  rw [underN_iff, back_common b ha]; exact lcp_left _ _
theorem common_most {a b : Bs} (c : Bs) (ha : validN a = true) : (underN a c && underN b c) = underN (commonN a b) c := by
  rw [Bool.eq_iff_iff, Bool.and_eq_true, underN_iff, underN_iff, underN_iff, back_common b ha]
  exact ⟨fun h => lcp_most _ _ _ h.1 h.2, fun h => ⟨h.trans (lcp_left _ _), h.trans (lcp_right _ _)⟩⟩
end NP
namespace Go.Proofs.Ytijbggmofdgphaa
open Go.RowKit Go.Shelf NP

set_option maxRecDepth 100000 in
set_option maxHeartbeats 4000000 in
theorem NameCommon_walk (a b c : ByteArray) (w : World) :
    Calls Try.prog 6 #[.string a, .string b, .string c] w fun e w' => e = .returned (.bool true) ∧ Below w.heap.size w w' := by
  go_enter Try.func6, Try.ntmps6
  go_wp2_with fail
  refine (head_calls _).mono ?_
  rintro e w1 ⟨rfl, hb1⟩
  go_wp2_with fail
  refine (names_calls _ [S a, S b, S c] (by simp) (by simp) _ (strs3 _ _ _ _ _)).mono ?_
  rintro e w2 ⟨rfl, hb2⟩
  have hB := below_alloc hb1 hb2
  clear hb1 hb2
  by_cases hall : ([S a, S b, S c] : List Bs).all validN = true
  rotate_left
  · have hall' : ([S a, S b, S c] : List Bs).all validN = false := by simpa using hall
    rw [hall']
    clear hall hall'
    go_wp2
    go_ret
    exact ⟨rfl, hB⟩
  rw [hall]
  simp only [List.all_cons, List.all_nil, Bool.and_true, Bool.and_eq_true] at hall
  obtain ⟨va, vb, vc⟩ := hall
  have HR1 : Hid (commonR (S a) (S b) = (commonN (S a) (S b), 0)) := by unfold Hid commonR; rw [if_pos ⟨va, vb⟩]
  have HR2 : Hid (commonR (S b) (S a) = (commonN (S a) (S b), 0)) := by unfold Hid commonR; rw [if_pos ⟨vb, va⟩, common_comm]
  have f1 := common_valid (S b) va
  have f2 := common_left (S b) va
  have f3 : underN (S b) (commonN (S a) (S b)) = true := by rw [common_comm]; exact common_left (S a) vb
  have f4 := common_most (b := S b) (S c) va
  obtain ⟨X, hX⟩ : ∃ X : ByteArray, mk (commonN (S a) (S b)) = X := ⟨_, rfl⟩
  have hSX : S X = commonN (S a) (S b) := by rw [← hX, S_mk]
  rw [← hSX] at f1 f2 f3 f4
  have HX := Lib.hid hX
  clear hX hSX
  go_wp2_with fail
  refine (Common_calls _ _ _).mono ?_
  rintro e w3 ⟨rfl, hb'⟩
  replace hB := below_step hB hb'
  clear hb'
  rw [HR1.out, HX.out]
  go_wp2_with fail
  refine (Common_calls _ _ _).mono ?_
  rintro e w4 ⟨rfl, hb'⟩
  replace hB := below_step hB hb'
  clear hb'
  rw [HR2.out, HX.out]
  cases uac : underN (S a) (S c) with
  | false =>
    have ux : underN (S X) (S c) = false := by rw [← f4, uac]; rfl
    clear f4
    go_wp2_with (first | (go_at_call 13; refine (under_calls _ _ (by assumption) (by assumption) _).mono ?_; rintro e w' ⟨rfl, hb'⟩; replace hB := below_step hB hb'; clear hb') | (go_at_call 16; refine (Valid_calls _ _).mono ?_; rintro e w' ⟨rfl, hb'⟩; replace hB := below_step hB hb'; clear hb'))
    go_ret
    exact ⟨rfl, hB⟩
  | true =>
    have ux : underN (S X) (S c) = underN (S b) (S c) := by rw [← f4, uac]; rfl
    clear f4
    cases ubc : underN (S b) (S c) with
    | false =>
      rw [ubc] at ux
      go_wp2_with (first | (go_at_call 13; refine (under_calls _ _ (by assumption) (by assumption) _).mono ?_; rintro e w' ⟨rfl, hb'⟩; replace hB := below_step hB hb'; clear hb') | (go_at_call 16; refine (Valid_calls _ _).mono ?_; rintro e w' ⟨rfl, hb'⟩; replace hB := below_step hB hb'; clear hb'))
      go_ret
      exact ⟨rfl, hB⟩
    | true =>
      rw [ubc] at ux
      go_wp2_with (first | (go_at_call 13; refine (under_calls _ _ (by assumption) (by assumption) _).mono ?_; rintro e w' ⟨rfl, hb'⟩; replace hB := below_step hB hb'; clear hb') | (go_at_call 16; refine (Valid_calls _ _).mono ?_; rintro e w' ⟨rfl, hb'⟩; replace hB := below_step hB hb'; clear hb'))
      go_ret
      exact ⟨rfl, hB⟩
end Go.Proofs.Ytijbggmofdgphaa
