/-
  Contract of Join.
-/
import Derived.Test.YtijbggmofdgphaaNh
namespace NP
open Go Go.RowKit

def joinR (l : List Bs) : Bs × Int := if okL l = true ∧ (nameOf l).length ≤ 60 then (nameOf l, 0) else ([], 11)

theorem joinR_nil : joinR [] = ([46], 0) := by decide
theorem joinR_long {l : List Bs} (h : 8 < l.length) : joinR l = ([], 11) := by
  unfold joinR; rw [if_neg]; intro e; have := okL_len e.1; omega
/-- The labels before the k-th one are good. -/
def goodTo (l : List Bs) (k : Nat) : Prop := ∀ j x, j < k → l[j]? = some x → isLabel x = true ∨ (j = 0 ∧ x = [42])
theorem goodTo_zero (l : List Bs) : goodTo l 0 := fun j _ h _ => absurd h (Nat.not_lt_zero j)
theorem goodTo_succ {l : List Bs} {k : Nat} {x : Bs} (h : goodTo l k) (hx : l[k]? = some x) (hg : isLabel x = true ∨ (k = 0 ∧ x = [42])) : goodTo l (k + 1) := by
  intro j y hj hy
  by_cases e : j = k
  · subst e; rw [hx] at hy; cases hy; exact hg
  · exact h j y (by omega) hy
theorem joinR_bad {l : List Bs} {k : Nat} {x : Bs} (hx : l[k]? = some x) (h1 : isLabel x = false) (h2 : ¬ (k = 0 ∧ x = [42])) : joinR l = ([], 11) := by
  unfold joinR; rw [if_neg]
  rintro ⟨e, _⟩
  cases l with
  | nil => simp at hx
  | cons y t =>
    simp only [okL, Bool.and_eq_true, Bool.or_eq_true, beq_iff_eq] at e
    cases k with
    | zero =>
      simp at hx; subst hx
      rcases e.2.1 with e | e
      · exact h2 ⟨rfl, e⟩
      · rw [h1] at e; cases e
    | succ k =>
      simp at hx
      have := List.all_eq_true.1 e.2.2 x (List.mem_of_getElem? hx)
      rw [h1] at this; cases this
theorem goodTo_okL {l : List Bs} (h : goodTo l l.length) (h8 : ¬ 8 < l.length) : okL l = true := by
  unfold okL
  have h8' : l.length ≤ 8 := by omega
  simp only [h8', decide_true, Bool.true_and]
  cases l with
  | nil => rfl
  | cons y t =>
    simp only [Bool.and_eq_true, Bool.or_eq_true, beq_iff_eq]
    refine ⟨?_, List.all_eq_true.2 fun x hx => ?_⟩
    · rcases h 0 y (by simp) (by simp) with h | h
      · exact .inr h
      · exact .inl h.2
    · obtain ⟨j, hj, e⟩ := List.getElem_of_mem hx
      rcases h (j + 1) x (by simp; omega) (by simp [← e]) with h | h
      · exact h
      · omega
theorem join_eq (l : List Bs) : Lib.join l [46] = joinDot l := by
  unfold Lib.join
  induction l with
  | nil => rfl
  | cons x t ih =>
    cases t with
    | nil => simp [joinDot, List.intercalate]
    | cons y t => rw [joinDot_cons x _ (by simp), ← ih]; simp [List.intercalate, List.intersperse]
theorem join_short {l : List Bs} (h : okL l = true) : (joinDot l).length ≤ 13 * l.length := by
  have hx : ∀ x ∈ l, x.length ≤ 12 := by
    intro x hx
    rcases okL_mem h hx with rfl | h
    · decide
    · exact isLabel_len h
  clear h
  induction l with
  | nil => simp [joinDot]
  | cons x t ih =>
    have h1 := hx x (by simp)
    have h2 := ih (fun y hy => hx y (List.mem_cons_of_mem _ hy))
    by_cases e : t = []
    · subst e; simp only [joinDot]; simp; omega
    · rw [joinDot_cons x t e]; simp; omega
end NP

namespace Go.Proofs.Ytijbggmofdgphaa
open Go.RowKit Go.Shelf NP

set_option maxHeartbeats 400000 in
theorem Join_calls (v : Value) (ls : List Bs) (w : World) (h : Strs w v ls) :
    Calls Try.prog 17 #[v] w fun e w' => e = .returned (.tuple #[.string (mk (joinR ls).1), .int .i64 (joinR ls).2]) ∧ Below w.heap.size w w' := by
  rcases h with ⟨a, c, rfl, rfl⟩ | ⟨B, off, cap, rfl, hcap, hB, hcell⟩
  · have HR := Lib.hid joinR_nil
    go_enter Try.func17, Try.ntmps17
    go_wp2
    go_ret2
    rw [HR.out]
    exact ⟨rfl, Below.refl _ _⟩
  by_cases h0 : ls = []
  · subst h0
    have HR := Lib.hid joinR_nil
    go_enter Try.func17, Try.ntmps17
    go_wp2
    go_ret2
    rw [HR.out]
    exact ⟨rfl, Below.refl _ _⟩
  have hpos : 0 < ls.length := List.length_pos_iff.2 h0
  obtain ⟨n, hn⟩ : ∃ n, ls.length = n := ⟨_, rfl⟩
  rw [hn] at hpos hcap ⊢
  have q0 : ((n : Int) == 0) = false := by simp; omega
  by_cases h8 : 8 < n
  · have HR := Lib.hid (joinR_long (l := ls) (by omega))
    clear hn hcell
    go_enter Try.func17, Try.ntmps17
    go_wp2
    go_ret2
    rw [HR.out]
    exact ⟨rfl, Below.refl _ _⟩
  have d8 : decide ((8 : Int) < (n : Int)) = false := by simp; omega
  have HN := Lib.hid hn
  have HC := Lib.hid hcell
  clear hn hcell h0
  go_enter Try.func17, Try.ntmps17
  go_wp2
  go_loop [15] (fun i => ∃ k : Nat, k ≤ n ∧ i = .int .i64 k ∧ goodTo ls k) (fun i => n - (intOf i).toNat)
  case atStart => exact ⟨0, Nat.zero_le _, rfl, goodTo_zero _⟩
  case round =>
    obtain ⟨k, hk, rfl, hg⟩ := hrel
    by_cases hlt : k < n
    · have hkl : k < ls.length := by rw [HN.out]; exact hlt
      obtain ⟨x, hx⟩ : ∃ x, ls[k]? = some x := ⟨_, List.getElem?_eq_getElem hkl⟩
      have hc := HC.out k x hx
      have HX := Lib.hid hx
      clear hx hkl
      by_cases hl : isLabel x = true
      · have HG := Lib.hid (goodTo_succ hg HX.out (.inl hl))
        clear hg
        go_wp2_with (go_at_call 24; refine (isLabel_calls _ _).mono ?_; rintro e w' ⟨rfl, rfl⟩; rw [S_mk, hl])
        go_round
        case rel => exact ⟨k + 1, by omega, by go_num, HG.out⟩
        case measure => simp [intOf]; omega
      · have hl' : isLabel x = false := by simpa using hl
        clear hl
        by_cases hk0 : k = 0
        · have hk1 : k < 1 := by omega
          by_cases hs : x = [42]
          · have HG := Lib.hid (goodTo_succ hg HX.out (.inr ⟨hk0, hs⟩))
            have hq : ((mk x).toList == [42]) = true := by rw [S_toList, S_mk, hs]; rfl
            clear hg hs hk0
            go_wp2_with (go_at_call 24; refine (isLabel_calls _ _).mono ?_; rintro e w' ⟨rfl, rfl⟩; rw [S_mk, hl'])
            go_round
            case rel => exact ⟨k + 1, by omega, by go_num, HG.out⟩
            case measure => simp [intOf]; omega
          · have HB := Lib.hid (joinR_bad HX.out hl' (fun h => hs h.2))
            have hq : ((mk x).toList == [42]) = false := by rw [S_toList, S_mk]; simpa using hs
            clear hg hs hk0
            go_wp2_with (go_at_call 24; refine (isLabel_calls _ _).mono ?_; rintro e w' ⟨rfl, rfl⟩; rw [S_mk, hl'])
            go_ret2
            rw [HB.out]
            exact ⟨rfl, Below.refl _ _⟩
        · have HB := Lib.hid (joinR_bad HX.out hl' (fun h => hk0 h.1))
          have hk1 : 0 < k := by omega
          clear hg hk0
          go_wp2_with (go_at_call 24; refine (isLabel_calls _ _).mono ?_; rintro e w' ⟨rfl, rfl⟩; rw [S_mk, hl'])
          go_ret2
          rw [HB.out]
          exact ⟨rfl, Below.refl _ _⟩
    · obtain rfl : n = k := by omega
      have hok : okL ls = true := goodTo_okL (by rw [HN.out]; exact hg) (by rw [HN.out]; exact h8)
      have hne : ls ≠ [] := by intro e; have := HN.out; rw [e] at this; simp at this; omega
      have hname : nameOf ls = joinDot ls := by unfold nameOf; rw [if_neg hne]
      have hjl := join_short hok
      rw [HN.out] at hjl
      have hmm : (ls.map mk).map (·.data.toList) = ls := by
        rw [List.map_map]
        have : ((fun x : ByteArray => x.data.toList) ∘ mk) = id := funext fun l => S_mk l
        rw [this, List.map_id]
      have hee : Lib.join ((ls.map mk).map (·.data.toList)) (⟨#[46]⟩ : ByteArray).data.toList = joinDot ls := by rw [hmm]; exact join_eq ls
      have hj := Try.strings_Join B off cap (ls.map mk) ⟨#[46]⟩ w (fun j x hx => by
          rw [List.getElem?_map] at hx
          cases hl : ls[j]? with
          | none => rw [hl] at hx; simp at hx
          | some y => rw [hl] at hx; simp at hx; rw [← hx]; exact HC.out j y hl) hB (by rw [List.length_map, HN.out]; omega) (by rw [List.length_map, HN.out]; exact hcap) (by rw [hee]; omega)
      rw [hee, List.length_map, HN.out] at hj
      have HJ := Lib.hid hj
      have hsz : (mk (joinDot ls)).size = (joinDot ls).length := by rw [S_size, S_mk]
      have HSZ := Lib.hid hsz
      have HMK : Hid ((⟨(joinDot ls).toArray⟩ : ByteArray) = mk (joinDot ls)) := rfl
      by_cases h60 : 60 < (mk (joinDot ls)).size
      · have HR : Hid (joinR ls = ([], 11)) := by unfold Hid joinR; rw [if_neg]; intro h; rw [hname] at h; rw [hsz] at h60; omega
        clear hj hee hmm hjl hname hne hok hg hsz
        go_wp2_with (go_at_call 25; refine HJ.out.mono ?_; rintro e w' ⟨rfl, hb⟩; rw [HMK.out])
        go_ret2
        rw [HR.out]
        exact ⟨rfl, hb⟩
      · have HR : Hid (joinR ls = (joinDot ls, 0)) := by unfold Hid joinR; rw [hname, if_pos ⟨hok, by rw [hsz] at h60; omega⟩]
        clear hj hee hmm hjl hname hne hok hg hsz
        go_wp2_with (go_at_call 25; refine HJ.out.mono ?_; rintro e w' ⟨rfl, hb⟩; rw [HMK.out])
        go_ret2
        rw [HR.out]
        exact ⟨rfl, hb⟩
end Go.Proofs.Ytijbggmofdgphaa
