/-
  Contracts of Valid, Parent, Under.
-/
import Derived.Test.YtijbggmofdgphaaPm
import Derived.Test.YtijbggmofdgphaaNc
namespace NP

def parentR (s : Bs) : Bs × Int := if validN s = true then (if s = [46] then ([], 4) else (parentN s, 0)) else ([], 11)
def underR (s z : Bs) : Bool × Int := if validN s = true ∧ validN z = true then (underN s z, 0) else (false, 11)
def compareR (a b : Bs) : Int × Int := if validN a = true ∧ validN b = true then (compareN a b, 0) else (0, 11)
def commonR (a b : Bs) : Bs × Int := if validN a = true ∧ validN b = true then (commonN a b, 0) else ([], 11)

/-- The first dot. -/
theorem indexDot_spec (s : Bs) : (Go.Lib.indexByte s 46 = -1 ∧ (46 : UInt8) ∉ s) ∨ (∃ i : Nat, i < s.length ∧ Go.Lib.indexByte s 46 = i ∧ (46 : UInt8) ∉ s.take i ∧ s = s.take i ++ 46 :: s.drop (i + 1)) := by
  induction s with
  | nil => left; simp [Go.Lib.indexByte]
  | cons c s ih =>
    unfold Go.Lib.indexByte
    by_cases hc : c = 46
    · right
      exact ⟨0, by simp, by simp [hc], by simp, by simp [hc]⟩
    · have hc' : (c == 46) = false := by simpa using hc
      rcases ih with ⟨h, hn⟩ | ⟨i, hi, h, hn, hs⟩
      · left
        refine ⟨by simp [hc', h], ?_⟩
        simp only [List.mem_cons, not_or]; exact ⟨fun e => hc e.symm, hn⟩
      · right
        have hne : ((Go.Lib.indexByte s 46) == -1) = false := by rw [h]; simp
        refine ⟨i + 1, by simp; omega, by simp only [hc', Bool.false_eq_true, if_false]; rw [hne]; simp [h], ?_, ?_⟩
        · simp only [List.take_succ_cons, List.mem_cons, not_or]; exact ⟨fun e => hc e.symm, hn⟩
        · simp only [List.take_succ_cons, List.cons_append, List.drop_succ_cons]; rw [← hs]

theorem parentN_none {s : Bs} (h0 : s ≠ [46]) (h : (46 : UInt8) ∉ s) : parentN s = [46] := by
  unfold parentN labs; rw [if_neg h0, splitDot_none s h]; rfl
theorem parentN_some {s : Bs} {i : Nat} (h0 : s ≠ [46]) (hn : (46 : UInt8) ∉ s.take i) (hs : s = s.take i ++ 46 :: s.drop (i + 1)) : parentN s = s.drop (i + 1) := by
  unfold parentN labs
  have e : splitDot s = splitDot (s.take i) ++ splitDot (s.drop (i + 1)) := by conv => lhs; rw [hs, splitDot_append]
  rw [if_neg h0, e, splitDot_none _ hn]
  show nameOf (splitDot (s.drop (i + 1))) = _
  unfold nameOf; rw [if_neg (splitDot_ne _), joinDot_splitDot]

theorem labs_of_ne {s : Bs} (h : s ≠ [46]) : labs s = splitDot s := by unfold labs; rw [if_neg h]

theorem underN_self (s : Bs) : underN s s = true := by rw [underN_iff]; exact List.prefix_refl _
theorem underN_root (s : Bs) : underN s [46] = true := by rw [underN_iff]; exact List.nil_prefix

/-- Below, by the text. -/
theorem underN_text {s z : Bs} (hs : validN s = true) (hz : validN z = true) (hne : s ≠ z) (hr : z ≠ [46]) : underN s z = true ↔ ∃ p, s = p ++ 46 :: z := by
  unfold underN
  rw [List.isSuffixOf_iff_suffix, labs_of_ne hr]
  constructor
  · rintro ⟨q, hq⟩
    have hs0 : s ≠ [46] := by
      intro e; subst e
      have : labs [46] = [] := rfl
      rw [this] at hq
      exact splitDot_ne z (List.append_eq_nil_iff.1 hq).2
    rw [labs_of_ne hs0] at hq
    have hq0 : q ≠ [] := by
      intro e; subst e
      simp only [List.nil_append] at hq
      exact hne (by rw [← joinDot_splitDot s, ← joinDot_splitDot z, hq])
    refine ⟨joinDot q, ?_⟩
    rw [← joinDot_splitDot s, ← hq, joinDot_append q _ hq0 (splitDot_ne z), joinDot_splitDot]
  · rintro ⟨p, hp⟩
    have hs0 : s ≠ [46] := by
      intro e; rw [e] at hp
      have hz0 : z = [] := by
        have := congrArg List.length hp
        simp at this
        exact List.length_eq_zero_iff.1 (by omega)
      subst hz0
      revert hz; decide
    rw [labs_of_ne hs0, hp, splitDot_append]
    exact ⟨_, rfl⟩

theorem under_short {s z : ByteArray} (hs : validN (S s) = true) (hz : validN (S z) = true) (hne : S s ≠ S z) (hr : S z ≠ [46]) (h : ¬ z.size < s.size) : underN (S s) (S z) = false := by
  rw [← Bool.not_eq_true, underN_text hs hz hne hr]
  rintro ⟨p, hp⟩
  have := congrArg List.length hp
  simp only [List.length_append, List.length_cons, ← S_size] at this
  omega
theorem under_nosuf {s z : ByteArray} (hs : validN (S s) = true) (hz : validN (S z) = true) (hne : S s ≠ S z) (hr : S z ≠ [46]) (h : Go.Lib.hasSuffix s.data.toList z.data.toList = false) : underN (S s) (S z) = false := by
  rw [← Bool.not_eq_true, underN_text hs hz hne hr]
  rintro ⟨p, hp⟩
  have h2 : Go.Lib.hasSuffix (S s) (S z) = true := List.isSuffixOf_iff_suffix.2 ⟨p ++ [46], by rw [hp]; simp⟩
  rw [show Go.Lib.hasSuffix (S s) (S z) = false from h] at h2
  exact absurd h2 (by simp)
theorem get_of_data {s : ByteArray} {k : Nat} (h : k < s.size) : (S s)[k]? = some s[k] := Go.Lib.data_getElem? s k h
theorem under_byte {s z : ByteArray} (hs : validN (S s) = true) (hz : validN (S z) = true) (hne : S s ≠ S z) (hr : S z ≠ [46]) (h : z.size < s.size) (hsuf : Go.Lib.hasSuffix s.data.toList z.data.toList = true)
    (hk : s.size - z.size - 1 < s.size) : underN (S s) (S z) = ((s[s.size - z.size - 1].toNat : Int) == 46) := by
  obtain ⟨p, hp⟩ := List.isSuffixOf_iff_suffix.1 hsuf
  have hp : p ++ S z = S s := hp
  have hl : p.length = s.size - z.size := by
    have := congrArg List.length hp
    simp only [List.length_append, ← S_size] at this
    omega
  have hg := get_of_data hk
  rw [← hp, List.getElem?_append_left (by omega)] at hg
  have hb : (((s[s.size - z.size - 1].toNat : Int)) = 46) ↔ s[s.size - z.size - 1] = 46 := by
    constructor
    · intro e; exact UInt8.toNat_inj.1 (by simp; omega)
    · intro e; rw [e]; rfl
  rw [Bool.eq_iff_iff, underN_text hs hz hne hr, beq_iff_eq, hb]
  constructor
  · rintro ⟨q, hq⟩
    rw [← hp] at hq
    have e2 : p = q ++ [46] := (List.append_left_inj (S z)).1 (by rw [hq]; simp)
    have e3 : q.length = s.size - z.size - 1 := by have := congrArg List.length e2; simp at this; omega
    rw [e2, List.getElem?_append_right (by omega), e3] at hg
    simp at hg; exact hg.symm
  · intro e
    rw [e] at hg
    refine ⟨p.take (s.size - z.size - 1), ?_⟩
    obtain ⟨hlt, hg⟩ := List.getElem?_eq_some_iff.1 hg
    have : p = p.take (s.size - z.size - 1) ++ [46] := by
      conv => lhs; rw [← List.take_append_drop (s.size - z.size - 1) p]
      rw [List.drop_eq_getElem_cons hlt, hg, List.drop_of_length_le (by omega)]
    rw [← hp]
    conv => lhs; rw [this]
    simp

end NP

namespace Go.Proofs.Ytijbggmofdgphaa
open Go.RowKit Go.Shelf NP

set_option maxHeartbeats 400000 in
theorem Valid_calls (s : ByteArray) (w : World) :
    Calls Try.prog 16 #[.string s] w fun e w' => e = .returned (.bool (validN (S s))) ∧ Below w.heap.size w w' := by
  go_enter Try.func16, Try.ntmps16
  go_wp2_with (go_at_call 20; refine (valid_calls _ _).mono ?_; rintro e w' ⟨rfl, hb⟩)
  go_ret
  exact ⟨rfl, hb⟩

set_option maxHeartbeats 400000 in
theorem Parent_calls (s : ByteArray) (w : World) :
    Calls Try.prog 14 #[.string s] w fun e w' => e = .returned (.tuple #[.string (mk (parentR (S s)).1), .int .i64 (parentR (S s)).2]) ∧ Below w.heap.size w w' := by
  by_cases hv : validN (S s) = true
  · by_cases h0 : S s = [46]
    · have HR : Hid (parentR (S s) = ([], 4)) := by unfold Hid parentR; rw [if_pos hv, if_pos h0]
      have hq := eqStr_true h0
      clear h0
      go_enter Try.func14, Try.ntmps14
      go_wp2_with (go_at_call 20; refine (valid_calls _ _).mono ?_; rintro e w' ⟨rfl, hb⟩; rw [hv])
      go_ret2
      rw [HR.out]
      exact ⟨rfl, hb⟩
    · have hq := eqStr_false h0
      have hR : parentR (S s) = (parentN (S s), 0) := by unfold parentR; rw [if_pos hv, if_neg h0]
      have h60 := valid_len hv
      rw [← S_size] at h60
      rcases indexDot_spec (S s) with ⟨hi, hn⟩ | ⟨i, hlt, hi, hn, hs⟩
      · rw [parentN_none h0 hn] at hR
        have HR := Lib.hid hR
        have HI := Lib.hid hi
        clear hR hi hn h0
        go_enter Try.func14, Try.ntmps14
        go_wp2_with (first | (go_at_call 20; refine (valid_calls _ _).mono ?_; rintro e w' ⟨rfl, hb⟩; rw [hv]) | (go_at_call 22; refine (Try.strings_IndexByte _ _ _).mono ?_; rintro e w' ⟨rfl, rfl⟩; rw [show Lib.indexByte s.data.toList ((46 : Int).toNat.toUInt8) = -1 from HI.out]))
        go_ret2
        rw [HR.out]
        exact ⟨rfl, hb⟩
      · rw [parentN_some h0 hn hs] at hR
        have HR := Lib.hid hR
        have HI := Lib.hid hi
        rw [← S_size] at hlt
        have hlt1 : i + 1 ≤ s.size := hlt
        clear hR hi hn h0 hs
        go_enter Try.func14, Try.ntmps14
        go_wp2_with (first | (go_at_call 20; refine (valid_calls _ _).mono ?_; rintro e w' ⟨rfl, hb⟩; rw [hv]) | (go_at_call 22; refine (Try.strings_IndexByte _ _ _).mono ?_; rintro e w' ⟨rfl, rfl⟩; rw [show Lib.indexByte s.data.toList ((46 : Int).toNat.toUInt8) = i from HI.out]))
        go_ret2
        rw [HR.out]
        refine ⟨?_, hb⟩
        have e1 : mk ((S s).drop (i + 1)) = s.extract (i + 1) s.size := by
          apply S_inj; rw [S_mk, S_extract, S_size, List.take_of_length_le (by simp)]
        rw [e1]
        rfl
  · have hv' : validN (S s) = false := by simpa using hv
    have HR : Hid (parentR (S s) = ([], 11)) := by unfold Hid parentR; rw [if_neg hv]
    clear hv
    go_enter Try.func14, Try.ntmps14
    go_wp2_with (go_at_call 20; refine (valid_calls _ _).mono ?_; rintro e w' ⟨rfl, hb⟩; rw [hv'])
    go_ret2
    rw [HR.out]
    exact ⟨rfl, hb⟩

set_option maxHeartbeats 400000 in
theorem Under_calls (s z : ByteArray) (w : World) :
    Calls Try.prog 18 #[.string s, .string z] w fun e w' => e = .returned (.tuple #[.bool (underR (S s) (S z)).1, .int .i64 (underR (S s) (S z)).2]) ∧ Below w.heap.size w w' := by
  by_cases hv : validN (S s) = true
  rotate_left
  · have hv' : validN (S s) = false := by simpa using hv
    have HR : Hid (underR (S s) (S z) = (false, 11)) := by unfold Hid underR; rw [if_neg (fun h => hv h.1)]
    clear hv
    go_enter Try.func18, Try.ntmps18
    go_wp2_with (go_at_call 20; refine (valid_calls _ _).mono ?_; rintro e w' ⟨rfl, hb⟩; rw [hv'])
    go_ret2
    rw [HR.out]
    exact ⟨rfl, hb⟩
  by_cases hz : validN (S z) = true
  rotate_left
  · have hz' : validN (S z) = false := by simpa using hz
    have HR : Hid (underR (S s) (S z) = (false, 11)) := by unfold Hid underR; rw [if_neg (fun h => hz h.2)]
    clear hz
    go_enter Try.func18, Try.ntmps18
    go_wp2_with fail
    refine (valid_calls _ _).mono ?_
    rintro e w1 ⟨rfl, hb⟩
    rw [hv]
    go_wp2_with fail
    refine (valid_calls _ _).mono ?_
    rintro e w2 ⟨rfl, hb2⟩
    rw [hz']
    go_wp2
    go_ret2
    rw [HR.out]
    exact ⟨rfl, hb.trans (hb2.mono hb.size)⟩
  have hR : underR (S s) (S z) = (underN (S s) (S z), 0) := by unfold underR; rw [if_pos ⟨hv, hz⟩]
  have h1 := valid_len hv
  have h2 := valid_len hz
  rw [← S_size] at h1 h2
  by_cases he : S s = S z
  · have hq : (s.toList == z.toList) = true := by rw [S_toList, S_toList, he]; simp
    have HR : Hid (underR (S s) (S z) = (true, 0)) := by unfold Hid; rw [hR, he, underN_self]
    clear hR he
    go_enter Try.func18, Try.ntmps18
    go_wp2_with fail
    refine (valid_calls _ _).mono ?_
    rintro e w1 ⟨rfl, hb⟩
    rw [hv]
    go_wp2_with fail
    refine (valid_calls _ _).mono ?_
    rintro e w2 ⟨rfl, hb2⟩
    rw [hz]
    go_wp2
    go_ret2
    rw [HR.out]
    exact ⟨rfl, hb.trans (hb2.mono hb.size)⟩
  have hq : (s.toList == z.toList) = false := by rw [S_toList, S_toList]; simpa using he
  by_cases hr : S z = [46]
  · have hq2 := eqStr_true hr
    have HR : Hid (underR (S s) (S z) = (true, 0)) := by unfold Hid; rw [hR, hr, underN_root]
    clear hR he hr
    go_enter Try.func18, Try.ntmps18
    go_wp2_with fail
    refine (valid_calls _ _).mono ?_
    rintro e w1 ⟨rfl, hb⟩
    rw [hv]
    go_wp2_with fail
    refine (valid_calls _ _).mono ?_
    rintro e w2 ⟨rfl, hb2⟩
    rw [hz]
    go_wp2
    go_ret2
    rw [HR.out]
    exact ⟨rfl, hb.trans (hb2.mono hb.size)⟩
  have hq2 := eqStr_false hr
  by_cases hlt : z.size < s.size
  rotate_left
  · have HR : Hid (underR (S s) (S z) = (false, 0)) := by unfold Hid; rw [hR, under_short hv hz he hr hlt]
    clear hR he hr
    go_enter Try.func18, Try.ntmps18
    go_wp2_with fail
    refine (valid_calls _ _).mono ?_
    rintro e w1 ⟨rfl, hb⟩
    rw [hv]
    go_wp2_with fail
    refine (valid_calls _ _).mono ?_
    rintro e w2 ⟨rfl, hb2⟩
    rw [hz]
    go_wp2
    go_ret2
    rw [HR.out]
    exact ⟨rfl, hb.trans (hb2.mono hb.size)⟩
  have hk : s.size - z.size - 1 < s.size := by omega
  have hki : (0 : Int) ≤ (s.size : Int) - z.size - 1 := by omega
  by_cases hsuf : Lib.hasSuffix s.data.toList z.data.toList = true
  rotate_left
  · have hsuf' : Lib.hasSuffix s.data.toList z.data.toList = false := by simpa using hsuf
    have HR : Hid (underR (S s) (S z) = (false, 0)) := by unfold Hid; rw [hR, under_nosuf hv hz he hr hsuf']
    have HS := Lib.hid hsuf'
    clear hR he hr hsuf hsuf'
    go_enter Try.func18, Try.ntmps18
    go_wp2_with fail
    refine (valid_calls _ _).mono ?_
    rintro e w1 ⟨rfl, hb⟩
    rw [hv]
    go_wp2_with fail
    refine (valid_calls _ _).mono ?_
    rintro e w2 ⟨rfl, hb2⟩
    rw [hz]
    go_wp2_with (go_at_call 26; refine (Try.strings_HasSuffix _ _ _ (by omega)).mono ?_; rintro e w' ⟨rfl, rfl⟩; rw [HS.out])
    go_ret2
    rw [HR.out]
    exact ⟨rfl, hb.trans (hb2.mono hb.size)⟩
  · have HR : Hid (underR (S s) (S z) = (((s[s.size - z.size - 1].toNat : Int) == 46), 0)) := by unfold Hid; rw [hR, under_byte hv hz he hr hlt hsuf hk]
    have HS := Lib.hid hsuf
    clear hR he hr hsuf
    go_enter Try.func18, Try.ntmps18
    go_wp2_with fail
    refine (valid_calls _ _).mono ?_
    rintro e w1 ⟨rfl, hb⟩
    rw [hv]
    go_wp2_with fail
    refine (valid_calls _ _).mono ?_
    rintro e w2 ⟨rfl, hb2⟩
    rw [hz]
    go_wp2_with (go_at_call 26; refine (Try.strings_HasSuffix _ _ _ (by omega)).mono ?_; rintro e w' ⟨rfl, rfl⟩; rw [HS.out])
    trace_state
    go_ret2
    rw [HR.out]
    exact ⟨rfl, hb.trans (hb2.mono hb.size)⟩
end Go.Proofs.Ytijbggmofdgphaa
