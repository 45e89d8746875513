/-
  The walk of the law NameOrder.
-/
import Derived.Test.YtijbggmofdgphaaLa
namespace NP
open Go Go.RowKit

theorem strs2 (w : World) (t : TypeId) (a b : ByteArray) : Strs (w.alloc (.cells #[.string a, .string b] t)) (.slice (some ⟨w.heap.size, 0, none⟩) 2 2) [S a, S b] := by
  have h := RowAt.new w t [.string a, .string b]
  refine .inr ⟨w.heap.size, 0, 2, rfl, Nat.le_refl _, by simp, fun j x hj => ?_⟩
  rw [Nat.zero_add, h.cell]
  rcases j with _ | _ | j
  · simp at hj; subst hj; simp
  · simp at hj; subst hj; simp
  · simp at hj
theorem strs3 (w : World) (t : TypeId) (a b c : ByteArray) : Strs (w.alloc (.cells #[.string a, .string b, .string c] t)) (.slice (some ⟨w.heap.size, 0, none⟩) 3 3) [S a, S b, S c] := by
  have h := RowAt.new w t [.string a, .string b, .string c]
  refine .inr ⟨w.heap.size, 0, 3, rfl, Nat.le_refl _, by simp, fun j x hj => ?_⟩
  rw [Nat.zero_add, h.cell]
  rcases j with _ | _ | _ | j
  · simp at hj; subst hj; simp
  · simp at hj; subst hj; simp
  · simp at hj; subst hj; simp
  · simp at hj
theorem strs4 (w : World) (t : TypeId) (a b c d : ByteArray) : Strs (w.alloc (.cells #[.string a, .string b, .string c, .string d] t)) (.slice (some ⟨w.heap.size, 0, none⟩) 4 4) [S a, S b, S c, S d] := by
  have h := RowAt.new w t [.string a, .string b, .string c, .string d]
  refine .inr ⟨w.heap.size, 0, 4, rfl, Nat.le_refl _, by simp, fun j x hj => ?_⟩
  rw [Nat.zero_add, h.cell]
  rcases j with _ | _ | _ | _ | j
  · simp at hj; subst hj; simp
  · simp at hj; subst hj; simp
  · simp at hj; subst hj; simp
  · simp at hj; subst hj; simp
  · simp at hj

/-- Behind a new block. -/
theorem below_alloc {w w1 w2 : World} {o : Obj} (h1 : Below w.heap.size w w1) (h2 : Below (w1.alloc o).heap.size (w1.alloc o) w2) : Below w.heap.size w w2 :=
  (h1.alloc h1.size o).trans (h2.mono (by have := h1.size; simp; omega))
theorem below_step {w w1 w2 : World} (h1 : Below w.heap.size w w1) (h2 : Below w1.heap.size w1 w2) : Below w.heap.size w w2 := h1.trans (h2.mono h1.size)
end NP

namespace Go.Proofs.Ytijbggmofdgphaa
open Go.RowKit Go.Shelf NP

theorem ret_true {b : Bool} (h : b = true) : Ending.returned (.bool b) = .returned (.bool true) := by rw [h]

theorem order_facts (a b c : ByteArray) (x y z : Int) (hx : compareN (S a) (S b) = x) (hy : compareN (S b) (S c) = y) (hz : compareN (S a) (S c) = z) :
    (-1 ≤ x ∧ x ≤ 1) ∧ (-1 ≤ y ∧ y ≤ 1) ∧ (-1 ≤ z ∧ z ≤ 1) ∧ ((x == 0) = (a.toList == b.toList)) ∧ compareN (S b) (S a) = -x ∧ compareN (S a) (S a) = 0 ∧
    (x ≤ 0 → y ≤ 0 → z ≤ 0) ∧ (x < 0 → y ≤ 0 → z < 0) ∧ (x ≤ 0 → y < 0 → z < 0) := by
  have o := cmpL_ord
  unfold compareN at *
  subst hx hy hz
  refine ⟨?_, ?_, ?_, ?_, o.anti _ _, (o.zero _ _).2 rfl, o.le_trans, o.lt_le, o.le_lt⟩
  · rcases o.range (back (S a)) (back (S b)) with h | h | h <;> omega
  · rcases o.range (back (S b)) (back (S c)) with h | h | h <;> omega
  · rcases o.range (back (S a)) (back (S c)) with h | h | h <;> omega
  · rw [Bool.eq_iff_iff, beq_iff_eq, beq_iff_eq, o.zero, S_toList, S_toList]
    exact ⟨fun h => back_inj h, fun h => by rw [h]⟩

set_option maxRecDepth 100000 in
set_option maxHeartbeats 4000000 in
theorem NameOrder_walk (a b c : ByteArray) (w : World) :
    Calls Try.prog 3 #[.string a, .string b, .string c] w fun e w' => e = .returned (.bool true) ∧ Below w.heap.size w w' := by
  go_enter Try.func3, Try.ntmps3
  go_wp2_with fail
  refine (head_calls _).mono ?_
  rintro e w1 ⟨rfl, hb1⟩
  go_wp2_with fail
  refine (names_calls _ [S a, S b, S c] (by simp) (by simp) _ (strs3 _ _ _ _ _)).mono ?_
  rintro e w2 ⟨rfl, hb2⟩
  have hb := below_alloc hb1 hb2
  clear hb1 hb2
  by_cases hall : ([S a, S b, S c] : List Bs).all validN = true
  rotate_left
  · have hall' : ([S a, S b, S c] : List Bs).all validN = false := by simpa using hall
    rw [hall']
    clear hall hall'
    go_wp2
    go_ret
    exact ⟨rfl, hb⟩
  rw [hall]
  simp only [List.all_cons, List.all_nil, Bool.and_true, Bool.and_eq_true] at hall
  obtain ⟨va, vb, vc⟩ := hall
  obtain ⟨x, hx⟩ : ∃ x, compareN (S a) (S b) = x := ⟨_, rfl⟩
  obtain ⟨y, hy⟩ : ∃ y, compareN (S b) (S c) = y := ⟨_, rfl⟩
  obtain ⟨z, hz⟩ : ∃ z, compareN (S a) (S c) = z := ⟨_, rfl⟩
  obtain ⟨⟨x1, x2⟩, ⟨y1, y2⟩, ⟨z1, z2⟩, hxe, hxn, hxs, t1, t2, t3⟩ := order_facts a b c x y z hx hy hz
  have HX := Lib.hid hx
  have HY := Lib.hid hy
  have HZ := Lib.hid hz
  have HN := Lib.hid hxn
  have HS := Lib.hid hxs
  have T1 := Lib.hid t1
  have T2 := Lib.hid t2
  have T3 := Lib.hid t3
  have VA := Lib.hid va
  have VB := Lib.hid vb
  have VC := Lib.hid vc
  have HXE := Lib.hid hxe
  clear hx hy hz hxn hxs t1 t2 t3 va vb vc hxe
  go_wp2_with fail
  refine (compare_calls _ _ VA.out VB.out _).mono ?_
  rintro e w3 ⟨rfl, hb3⟩
  replace hb := below_step hb hb3
  clear hb3
  rw [HX.out]
  go_wp2_with fail
  refine (compare_calls _ _ VB.out VC.out _).mono ?_
  rintro e w4 ⟨rfl, hb3⟩
  replace hb := below_step hb hb3
  clear hb3
  rw [HY.out]
  go_wp2_with fail
  refine (compare_calls _ _ VA.out VC.out _).mono ?_
  rintro e w5 ⟨rfl, hb3⟩
  replace hb := below_step hb hb3
  clear hb3
  rw [HZ.out]
  have hxe := HXE.out
  have d1 : decide (x < -1) = false := by simp; omega
  have d2 : decide (1 < x) = false := by simp; omega
  have d3 : decide (y < -1) = false := by simp; omega
  have d4 : decide (1 < y) = false := by simp; omega
  have d5 : decide (z < -1) = false := by simp; omega
  have d6 : decide (1 < z) = false := by simp; omega
  go_wp2_with fail
  refine (compare_calls _ _ VB.out VA.out _).mono ?_
  rintro e w6 ⟨rfl, hb3⟩
  replace hb := below_step hb hb3
  clear hb3
  rw [HN.out]
  go_wp2_with fail
  refine (compare_calls _ _ VA.out VA.out _).mono ?_
  rintro e w7 ⟨rfl, hb3⟩
  replace hb := below_step hb hb3
  clear hb3
  rw [HS.out]
  have t1 := T1.out
  have t2 := T2.out
  have t3 := T3.out
  clear d1 d2 d3 d4 d5 d6 hxe T1 T2 T3 HX HY HZ HN HS HXE VA VB VC
  rcases (by omega : 0 < x ∨ (x ≤ 0 ∧ 0 ≤ x ∧ 0 < y) ∨ (x ≤ 0 ∧ 0 ≤ x ∧ y ≤ 0 ∧ 0 ≤ y ∧ z ≤ 0) ∨ (x ≤ 0 ∧ 0 ≤ x ∧ y < 0 ∧ z < 0) ∨ (x < 0 ∧ 0 < y) ∨ (x < 0 ∧ y ≤ 0 ∧ 0 ≤ y ∧ z < 0) ∨ (x < 0 ∧ y < 0 ∧ z < 0)) with h | ⟨h, h', h''⟩ | ⟨h, h', h1, h2, h3⟩ | ⟨h, h', h1, h2⟩ | ⟨h, h1⟩ | ⟨h, h1, h2, h3⟩ | ⟨h, h1, h2⟩ <;> clear t1 t2 t3
  all_goals
    go_wp2
    go_ret
    first
      | exact ⟨rfl, hb⟩
      | (refine ⟨ret_true ?_, hb⟩; simp; omega)
end Go.Proofs.Ytijbggmofdgphaa
