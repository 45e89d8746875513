/-
  The walk of the law NameTree.
-/
import Derived.Test.YtijbggmofdgphaaLb
namespace NP
/-- One of the first k names of the way up is b. -/
def foundB (a b : Bs) (k : Nat) : Bool := (List.range k).any fun j => nameOf ((labs a).drop j) == b
theorem foundB_succ (a b : Bs) (k : Nat) : foundB a b (k + 1) = (foundB a b k || nameOf ((labs a).drop k) == b) := by
  unfold foundB; rw [List.range_succ, List.any_append]; simp
theorem drop_ok {a : Bs} (ha : validN a = true) (k : Nat) : okL ((labs a).drop k) = true := okL_suffix (List.drop_suffix _ _) (valid_okL ha)
theorem drop_valid {a : Bs} (ha : validN a = true) (k : Nat) : validN (nameOf ((labs a).drop k)) = true := valid_suffix (List.drop_suffix _ _) ha
theorem drop_root {a : Bs} (ha : validN a = true) (k : Nat) : nameOf ((labs a).drop k) = [46] ↔ (labs a).length ≤ k := by
  rw [← labs_nil, labs_nameOf (drop_ok ha k), List.drop_eq_nil_iff]
theorem foundB_all {a b : Bs} (ha : validN a = true) : foundB a b ((labs a).length + 1) = underN a b := by
  rw [Bool.eq_iff_iff]
  unfold foundB underN
  rw [List.any_eq_true, List.isSuffixOf_iff_suffix]
  constructor
  · rintro ⟨j, _, hj⟩
    have := beq_iff_eq.1 hj
    rw [← this, labs_nameOf (drop_ok ha j)]
    exact List.drop_suffix _ _
  · rintro ⟨p, hp⟩
    refine ⟨p.length, ?_, ?_⟩
    · rw [List.mem_range, ← hp]; simp; omega
    · rw [beq_iff_eq, ← hp, List.drop_left, nameOf_labs]
theorem parent_drop {a : Bs} (ha : validN a = true) {k : Nat} (hk : k < (labs a).length) : parentR (nameOf ((labs a).drop k)) = (nameOf ((labs a).drop (k + 1)), 0) := by
  unfold parentR
  rw [if_pos (drop_valid ha k), if_neg (by rw [drop_root ha]; omega)]
  unfold parentN
  rw [labs_nameOf (drop_ok ha k), List.tail_drop]
theorem under_both {a b : Bs} (h1 : underN a b = true) (h2 : underN b a = true) : a = b := by
  rw [underN_iff] at h1 h2
  exact back_inj (h2.eq_of_length (Nat.le_antisymm h2.length_le h1.length_le))
theorem under_trans {a b c : Bs} (h1 : underN a b = true) (h2 : underN b c = true) : underN a c = true := by
  rw [underN_iff] at *; exact h2.trans h1
end NP
namespace Go.Proofs.Ytijbggmofdgphaa
open Go.RowKit Go.Shelf NP

set_option maxRecDepth 100000 in
set_option maxHeartbeats 8000000 in
theorem NameTree_walk (a b c : ByteArray) (w : World) :
    Calls Try.prog 4 #[.string a, .string b, .string c] w fun e w' => e = .returned (.bool true) ∧ Below w.heap.size w w' := by
  go_enter Try.func4, Try.ntmps4
  go_wp2_with fail
  refine (head_calls _).mono ?_
  rintro e w1 ⟨rfl, hb1⟩
  go_wp2_with fail
  refine (names_calls _ [S a, S b, S c] (by simp) (by simp) _ (strs3 _ _ _ _ _)).mono ?_
  rintro e w2 ⟨rfl, hb2⟩
  have hB := below_alloc hb1 hb2
  clear hb1 hb2
  by_cases hall : ([S a, S b, S c] : List Bs).all validN = true
  rotate_left
  · have hall' : ([S a, S b, S c] : List Bs).all validN = false := by simpa using hall
    rw [hall']
    clear hall hall'
    go_wp2
    go_ret
    exact ⟨rfl, hB⟩
  rw [hall]
  simp only [List.all_cons, List.all_nil, Bool.and_true, Bool.and_eq_true] at hall
  obtain ⟨va, vb, vc⟩ := hall
  have HL : Hid (labelsR (S a) = (labs (S a), 0)) := by unfold Hid labelsR; rw [if_pos va]
  go_wp2_with fail
  refine (Labels_calls _ _).mono ?_
  rintro e w3 ⟨v, rfl, hs, hb', _⟩
  replace hB := below_step hB hb'
  clear hb'
  rw [HL.out] at hs ⊢
  obtain ⟨n, hn⟩ : ∃ n, (labs (S a)).length = n := ⟨_, rfl⟩
  have n8 : n ≤ 8 := by rw [← hn]; exact okL_len (valid_okL va)
  have hv : ∃ ad cp, v = .slice ad n cp := by
    rcases hs with ⟨_, _, rfl, h⟩ | ⟨B, off, cap, rfl, hcap, hB0, hc⟩
    · have h' : labs (S a) = [] := h
      rw [h'] at hn; subst hn; exact ⟨_, _, rfl⟩
    · rw [show ((labs (S a), (0 : Int)).1).length = n from hn]; exact ⟨_, _, rfl⟩
  obtain ⟨ad, cp, rfl⟩ := hv
  have uaa := underN_self (S a)
  have vr : validN (S (⟨#[46]⟩ : ByteArray)) = true := by decide
  have uar : underN (S a) (S (⟨#[46]⟩ : ByteArray)) = true := underN_root (S a)
  have fb := foundB_all (b := S b) va
  rw [hn] at fb
  have HN := Lib.hid hn
  have FB := Lib.hid fb
  clear hs hn fb HL
  rcases (show (underN (S a) (S b) = false) ∨ (underN (S a) (S b) = true ∧ underN (S b) (S a) = false ∧ underN (S b) (S c) = false) ∨ (underN (S a) (S b) = true ∧ underN (S b) (S a) = false ∧ underN (S b) (S c) = true ∧ underN (S a) (S c) = true)
      ∨ (underN (S a) (S b) = true ∧ underN (S b) (S a) = true ∧ (a.toList == b.toList) = true ∧ underN (S b) (S c) = false) ∨ (underN (S a) (S b) = true ∧ underN (S b) (S a) = true ∧ (a.toList == b.toList) = true ∧ underN (S b) (S c) = true ∧ underN (S a) (S c) = true) by
    cases h1 : underN (S a) (S b) with
    | false => exact .inl rfl
    | true =>
      cases h2 : underN (S b) (S a) with
      | false =>
        cases h3 : underN (S b) (S c) with
        | false => exact .inr (.inl ⟨rfl, rfl, rfl⟩)
        | true => exact .inr (.inr (.inl ⟨rfl, rfl, rfl, under_trans h1 h3⟩))
      | true =>
        have e : (a.toList == b.toList) = true := by rw [S_toList, S_toList, under_both h1 h2]; simp
        cases h3 : underN (S b) (S c) with
        | false => exact .inr (.inr (.inr (.inl ⟨rfl, rfl, e, rfl⟩)))
        | true => exact .inr (.inr (.inr (.inr ⟨rfl, rfl, e, rfl, under_trans h1 h3⟩)))) with uab | ⟨uab, uba, ubc⟩ | ⟨uab, uba, ubc, uac⟩ | ⟨uab, uba, eab, ubc⟩ | ⟨uab, uba, eab, ubc, uac⟩
  all_goals
    go_wp2_with (go_at_call 13; refine (under_calls _ _ (by assumption) (by assumption) _).mono ?_; rintro e w' ⟨rfl, hb'⟩; replace hB := below_step hB hb'; clear hb')
    try clear eab
    go_loopw [10, 11, 12] (fun fd sv i wr => ∃ k : Nat, k ≤ n + 1 ∧ i = .int .i64 k ∧ fd = .bool (foundB (S a) (S b) k) ∧ (∃ t : ByteArray, sv = .string t ∧ (k ≤ n → S t = nameOf ((labs (S a)).drop k))) ∧ Below w.heap.size w wr) (fun _ _ i _ => n + 1 - (intOf i).toNat)
    case atStart => exact ⟨0, by omega, rfl, rfl, ⟨a, rfl, fun _ => (nameOf_labs _).symm⟩, hB⟩
    case round =>
      obtain ⟨k, hk, rfl, rfl, ⟨t, rfl, ht⟩, hbw⟩ := hrel
      by_cases hkn : n < k
      · have hkn' : k = n + 1 := by omega
        have HF : Hid (foundB (S a) (S b) k = underN (S a) (S b)) := by unfold Hid; rw [hkn']; exact FB.out
        clear ht hkn' hB
        have hB := hbw
        clear hbw
        rw [HF.out]
        go_wp2_with (go_at_call 13; refine (under_calls _ _ (by assumption) (by assumption) _).mono ?_; rintro e w' ⟨rfl, hb'⟩; replace hB := below_step hB hb'; clear hb')
        go_ret
        exact ⟨rfl, hB⟩
      · have hle : k ≤ n := by omega
        have HT := Lib.hid (ht hle)
        have HS := Lib.hid (foundB_succ (S a) (S b) k)
        clear ht hB
        obtain ⟨fk, hfk⟩ : ∃ fk, foundB (S a) (S b) k = fk := ⟨_, rfl⟩
        rw [hfk] at HS ⊢
        have hq : (t.toList == b.toList) = (nameOf ((labs (S a)).drop k) == S b) := by rw [S_toList, S_toList, HT.out]
        obtain ⟨q, hq'⟩ : ∃ q, (t.toList == b.toList) = q := ⟨_, rfl⟩
        rw [← hq, hq'] at HS
        clear hq hfk
        by_cases hlt : k < n
        · have HP : Hid (parentR (S t) = (nameOf ((labs (S a)).drop (k + 1)), 0)) := by unfold Hid; rw [HT.out]; exact parent_drop va (by rw [HN.out]; exact hlt)
          have hr := eqStr_false (a := t) (l := [46]) (by rw [HT.out, drop_root va, HN.out]; omega)
          have e1 : ((k : Int) == (n : Int)) = false := by simp; omega
          have e2 : (k == n) = false := by simp; omega
          cases fk
          all_goals
            go_wp2_with (go_at_call 14; refine (Parent_calls _ _).mono ?_; rintro e w' ⟨rfl, hb'⟩; replace hbw := below_step hbw hb'; clear hb'; rw [HP.out])
            go_roundw
            case rel => exact ⟨k + 1, by omega, by go_num, by rw [HS.out]; first | rfl | simp, ⟨_, rfl, fun _ => S_mk _⟩, hbw⟩
            case measure => simp [intOf]; omega
        · have HP : Hid (parentR (S t) = ([], 4)) := by
            have h46 : S t = [46] := by rw [HT.out, drop_root va, HN.out]; omega
            unfold Hid; rw [h46]; decide
          have hr := eqStr_true (a := t) (l := [46]) (by rw [HT.out, drop_root va, HN.out]; omega)
          have e1 : ((k : Int) == (n : Int)) = true := by simp; omega
          have e2 : (k == n) = true := by simp; omega
          cases fk
          all_goals
            go_wp2_with (go_at_call 14; refine (Parent_calls _ _).mono ?_; rintro e w' ⟨rfl, hb'⟩; replace hbw := below_step hbw hb'; clear hb'; rw [HP.out])
            go_roundw
            case rel => exact ⟨k + 1, by omega, by go_num, by rw [HS.out]; first | rfl | simp, ⟨_, rfl, fun h => by omega⟩, hbw⟩
            case measure => simp [intOf]; omega
end Go.Proofs.Ytijbggmofdgphaa
