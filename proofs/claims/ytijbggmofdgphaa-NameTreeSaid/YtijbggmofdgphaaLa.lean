/-
  The contracts of the small functions of the laws: head, names, compare, under.
-/
import Derived.Test.YtijbggmofdgphaaNi
namespace Go.Proofs.Ytijbggmofdgphaa
open Go.RowKit Go.Shelf NP

theorem h_l1 : labelsR (S (⟨#[97, 46, 110, 115, 46, 120]⟩ : ByteArray)) = ([[97], [110, 115], [120]], 0) := by decide +kernel
theorem h_l2 : labelsR (S (⟨#[46]⟩ : ByteArray)) = ([], 0) := by decide +kernel
theorem h_p1a : mk (parentR (S (⟨#[120]⟩ : ByteArray))).1 = ⟨#[46]⟩ := congrArg mk (show (parentR (S (⟨#[120]⟩ : ByteArray))).1 = [46] by decide +kernel)
theorem h_p1b : (parentR (S (⟨#[120]⟩ : ByteArray))).2 = 0 := by decide +kernel
theorem h_p2a : mk (parentR (S (⟨#[46]⟩ : ByteArray))).1 = ⟨#[]⟩ := congrArg mk (show (parentR (S (⟨#[46]⟩ : ByteArray))).1 = [] by decide +kernel)
theorem h_p2b : (parentR (S (⟨#[46]⟩ : ByteArray))).2 = 4 := by decide +kernel
theorem h_u1 : underR (S (⟨#[98, 46, 120]⟩ : ByteArray)) (S (⟨#[120]⟩ : ByteArray)) = (true, 0) := by decide +kernel
theorem h_u2 : underR (S (⟨#[98, 120]⟩ : ByteArray)) (S (⟨#[120]⟩ : ByteArray)) = (false, 0) := by decide +kernel
theorem h_c1 : compareR (S (⟨#[122, 46, 97]⟩ : ByteArray)) (S (⟨#[98]⟩ : ByteArray)) = (-1, 0) := by decide +kernel
theorem h_c2 : compareR (S (⟨#[97]⟩ : ByteArray)) (S (⟨#[122, 46, 97]⟩ : ByteArray)) = (-1, 0) := by decide +kernel
theorem h_m1a : mk (commonR (S (⟨#[97, 46, 98, 46, 120]⟩ : ByteArray)) (S (⟨#[99, 46, 120]⟩ : ByteArray))).1 = ⟨#[120]⟩ := congrArg mk (show (commonR (S (⟨#[97, 46, 98, 46, 120]⟩ : ByteArray)) (S (⟨#[99, 46, 120]⟩ : ByteArray))).1 = [120] by decide +kernel)
theorem h_m1b : (commonR (S (⟨#[97, 46, 98, 46, 120]⟩ : ByteArray)) (S (⟨#[99, 46, 120]⟩ : ByteArray))).2 = 0 := by decide +kernel
theorem h_v1 : validN (S (⟨#[42, 46, 120]⟩ : ByteArray)) = true := by decide +kernel
theorem h_v2 : validN (S (⟨#[120, 46, 42]⟩ : ByteArray)) = false := by decide +kernel
theorem h_v3 : validN (S (⟨#[]⟩ : ByteArray)) = false := by decide +kernel
theorem h_v4 : validN (S (⟨#[45, 97]⟩ : ByteArray)) = false := by decide +kernel
theorem h_v5 : validN (S (⟨#[97, 46, 46, 98]⟩ : ByteArray)) = false := by decide +kernel
theorem h_v6 : validN (S (⟨#[97, 98, 99, 100, 101, 102, 103, 104, 105, 106, 107, 108, 109]⟩ : ByteArray)) = false := by decide +kernel

set_option maxRecDepth 100000 in
set_option maxHeartbeats 4000000 in
theorem head_calls (w : World) : Calls Try.prog 9 #[] w fun e w' => e = .returned (.bool true) ∧ Below w.heap.size w w' := by
  go_enter Try.func9, Try.ntmps9
  go_wp2_with fail
  refine (Labels_calls _ _).mono ?_
  rintro e w1 ⟨v1, rfl, hs1, hb1, _⟩
  rw [h_l1] at hs1 ⊢
  go_wp2_with fail
  refine (Labels_calls _ _).mono ?_
  rintro e w2 ⟨v2, rfl, hs2, hb2, _⟩
  rw [h_l2] at hs2 ⊢
  replace hs1 := hs1.below hb2
  replace hb1 := hb1.trans (hb2.mono hb1.size)
  clear hb2
  go_wp2_with fail
  refine (Parent_calls _ _).mono ?_
  rintro e w3 ⟨rfl, hb2⟩
  rw [h_p1a, h_p1b]
  replace hs1 := hs1.below hb2
  replace hs2 := hs2.below hb2
  replace hb1 := hb1.trans (hb2.mono hb1.size)
  clear hb2
  go_wp2_with fail
  refine (Parent_calls _ _).mono ?_
  rintro e w4 ⟨rfl, hb2⟩
  rw [h_p2a, h_p2b]
  replace hs1 := hs1.below hb2
  replace hs2 := hs2.below hb2
  replace hb1 := hb1.trans (hb2.mono hb1.size)
  clear hb2
  rcases hs1 with ⟨_, _, _, h⟩ | ⟨B, off, cap, rfl, hcap, hB, hc⟩
  · cases h
  have c0 : w4.cell? ⟨B, off, none⟩ = some (.string ⟨#[97]⟩) := hc 0 _ rfl
  have c1 : w4.cell? ⟨B, off + 1, none⟩ = some (.string ⟨#[110, 115]⟩) := hc 1 _ rfl
  have c2 : w4.cell? ⟨B, off + 2, none⟩ = some (.string ⟨#[120]⟩) := hc 2 _ rfl
  simp only [List.length_cons, List.length_nil] at hcap
  clear hc
  have hl2 : ∃ a c, v2 = .slice a 0 c := by
    rcases hs2 with ⟨_, _, rfl, _⟩ | ⟨B2, off2, cap2, rfl, hcap2, hB2, hc2⟩
    · exact ⟨_, _, rfl⟩
    · exact ⟨_, _, rfl⟩
  obtain ⟨a2, cp2, rfl⟩ := hl2
  clear hs2
  go_wp2_with fail
  refine (Under_calls _ _ _).mono ?_
  rintro e w5 ⟨rfl, hb2⟩
  rw [h_u1]
  replace hb1 := hb1.trans (hb2.mono hb1.size)
  clear hb2
  go_wp2_with fail
  refine (Under_calls _ _ _).mono ?_
  rintro e w6 ⟨rfl, hb2⟩
  rw [h_u2]
  replace hb1 := hb1.trans (hb2.mono hb1.size)
  clear hb2
  go_wp2_with fail
  refine (Compare_calls _ _ _).mono ?_
  rintro e w7 ⟨rfl, hb2⟩
  rw [h_c1]
  replace hb1 := hb1.trans (hb2.mono hb1.size)
  clear hb2
  go_wp2_with fail
  refine (Compare_calls _ _ _).mono ?_
  rintro e w8 ⟨rfl, hb2⟩
  rw [h_c2]
  replace hb1 := hb1.trans (hb2.mono hb1.size)
  clear hb2
  go_wp2_with fail
  refine (Common_calls _ _ _).mono ?_
  rintro e w9 ⟨rfl, hb2⟩
  rw [h_m1a, h_m1b]
  replace hb1 := hb1.trans (hb2.mono hb1.size)
  clear hb2
  go_wp2_with fail
  refine (Valid_calls _ _).mono ?_
  rintro e w10 ⟨rfl, hb2⟩
  rw [h_v1]
  replace hb1 := hb1.trans (hb2.mono hb1.size)
  clear hb2
  go_wp2_with fail
  refine (Valid_calls _ _).mono ?_
  rintro e w11 ⟨rfl, hb2⟩
  rw [h_v2]
  replace hb1 := hb1.trans (hb2.mono hb1.size)
  clear hb2
  go_wp2_with fail
  refine (Valid_calls _ _).mono ?_
  rintro e w12 ⟨rfl, hb2⟩
  rw [h_v3]
  replace hb1 := hb1.trans (hb2.mono hb1.size)
  clear hb2
  go_wp2_with fail
  refine (Valid_calls _ _).mono ?_
  rintro e w13 ⟨rfl, hb2⟩
  rw [h_v4]
  replace hb1 := hb1.trans (hb2.mono hb1.size)
  clear hb2
  go_wp2_with fail
  refine (Valid_calls _ _).mono ?_
  rintro e w14 ⟨rfl, hb2⟩
  rw [h_v5]
  replace hb1 := hb1.trans (hb2.mono hb1.size)
  clear hb2
  go_wp2_with fail
  refine (Valid_calls _ _).mono ?_
  rintro e w15 ⟨rfl, hb2⟩
  rw [h_v6]
  replace hb1 := hb1.trans (hb2.mono hb1.size)
  clear hb2
  go_wp2
  go_ret
  exact ⟨rfl, hb1⟩

set_option maxHeartbeats 400000 in
theorem compare_calls (a b : ByteArray) (ha : validN (S a) = true) (hb : validN (S b) = true) (w : World) :
    Calls Try.prog 11 #[.string a, .string b] w fun e w' => e = .returned (.int .i64 (compareN (S a) (S b))) ∧ Below w.heap.size w w' := by
  have HR : Hid (compareR (S a) (S b) = (compareN (S a) (S b), 0)) := by unfold Hid compareR; rw [if_pos ⟨ha, hb⟩]
  clear ha hb
  go_enter Try.func11, Try.ntmps11
  go_wp2_with (go_at_call 19; refine (Compare_calls _ _ _).mono ?_; rintro e w' ⟨rfl, hb⟩; rw [HR.out])
  go_ret
  exact ⟨rfl, hb⟩

set_option maxHeartbeats 400000 in
theorem under_calls (a b : ByteArray) (ha : validN (S a) = true) (hb : validN (S b) = true) (w : World) :
    Calls Try.prog 13 #[.string a, .string b] w fun e w' => e = .returned (.bool (underN (S a) (S b))) ∧ Below w.heap.size w w' := by
  have HR : Hid (underR (S a) (S b) = (underN (S a) (S b), 0)) := by unfold Hid underR; rw [if_pos ⟨ha, hb⟩]
  clear ha hb
  cases hu : underN (S a) (S b) with
  | true =>
    rw [hu] at HR
    go_enter Try.func13, Try.ntmps13
    go_wp2_with (go_at_call 18; refine (Under_calls _ _ _).mono ?_; rintro e w' ⟨rfl, hb⟩; rw [HR.out])
    go_ret
    exact ⟨rfl, hb⟩
  | false =>
    rw [hu] at HR
    go_enter Try.func13, Try.ntmps13
    go_wp2_with (go_at_call 18; refine (Under_calls _ _ _).mono ?_; rintro e w' ⟨rfl, hb⟩; rw [HR.out])
    go_ret
    exact ⟨rfl, hb⟩

theorem all_take_succ {l : List Bs} {k : Nat} {x : Bs} (hx : l[k]? = some x) (h : (l.take k).all validN = true) (hv : validN x = true) : (l.take (k + 1)).all validN = true := by
  obtain ⟨hk, e⟩ := List.getElem?_eq_some_iff.1 hx
  rw [List.take_succ_eq_append_getElem hk, List.all_append, h, e]
  simp [hv]
theorem all_bad {l : List Bs} {k : Nat} {x : Bs} (hx : l[k]? = some x) (hv : validN x = false) : l.all validN = false :=
  List.all_eq_false.2 ⟨x, List.mem_of_getElem? hx, by simp [hv]⟩

set_option maxHeartbeats 400000 in
theorem names_calls (v : Value) (ls : List Bs) (h0 : ls ≠ []) (hn : ls.length ≤ 100) (w : World) (h : Strs w v ls) :
    Calls Try.prog 10 #[v] w fun e w' => e = .returned (.bool (ls.all validN)) ∧ Below w.heap.size w w' := by
  rcases h with ⟨_, _, rfl, rfl⟩ | ⟨B, off, cap, rfl, hcap, hB, hcell⟩
  · exact absurd rfl h0
  obtain ⟨n, hn'⟩ : ∃ n, ls.length = n := ⟨_, rfl⟩
  rw [hn'] at hn hcap ⊢
  have HN := Lib.hid hn'
  have HC := Lib.hid hcell
  clear hn' hcell h0
  go_enter Try.func10, Try.ntmps10
  go_wp2
  go_loopw [7] (fun i wr => ∃ k : Nat, k ≤ n ∧ i = .int .i64 k ∧ Hid ((ls.take k).all validN = true) ∧ Below w.heap.size w wr) (fun i _ => n - (intOf i).toNat)
  case atStart => exact ⟨0, Nat.zero_le _, rfl, rfl, Below.refl _ _⟩
  case round =>
    obtain ⟨k, hk, rfl, ha, hbw⟩ := hrel
    by_cases hlt : k < n
    · have hkl : k < ls.length := by rw [HN.out]; exact hlt
      obtain ⟨x, hx⟩ : ∃ x, ls[k]? = some x := ⟨_, List.getElem?_eq_getElem hkl⟩
      have hc : wr.cell? ⟨B, off + k, none⟩ = some (.string (mk x)) := (hbw.cell (p := ⟨B, off + k, none⟩) hB).trans (HC.out k x hx)
      have HX := Lib.hid hx
      clear hx hkl
      by_cases hv : validN x = true
      · have HG := Lib.hid (all_take_succ HX.out ha.out hv)
        go_wp2_with (go_at_call 16; refine (Valid_calls _ _).mono ?_; rintro e w' ⟨rfl, hb⟩; rw [S_mk, hv])
        go_roundw
        case rel => exact ⟨k + 1, by omega, by go_num, HG.out, hbw.trans (hb.mono hbw.size)⟩
        case measure => simp [intOf]; omega
      · have hv' : validN x = false := by simpa using hv
        have HB := Lib.hid (all_bad HX.out hv')
        clear hv
        go_wp2_with (go_at_call 16; refine (Valid_calls _ _).mono ?_; rintro e w' ⟨rfl, hb⟩; rw [S_mk, hv'])
        go_ret
        rw [HB.out]
        exact ⟨rfl, hbw.trans (hb.mono hbw.size)⟩
    · have HF : Hid (ls.all validN = true) := by
        have h1 := ha.out
        rw [List.take_of_length_le (by rw [HN.out]; omega)] at h1; exact h1
      go_wp2
      go_ret
      rw [HF.out]
      exact ⟨rfl, hbw⟩
end Go.Proofs.Ytijbggmofdgphaa
