/-
  Slices of strings that came in; the walk of the law NameLabels.
-/
import Derived.Test.YtijbggmofdgphaaLb
import Derived.SliceStrings
import Derived.OpenShut
import Derived.ProofKit
import Derived.Deep.QuietTactic
import Derived.BigQuiet
namespace NP
open Go Go.RowKit Go.WideShapes Go.ChangeShapes

/-- A reading of a slice of strings. -/
theorem strs_of_trod {H : Type} {enc : TypeId × Value → H} {P : Program} {W : World} {r : Reach} {base t e : Nat} {v : Value} {d : DataW H} {ps : List MemPlace}
    (ht : P.underlying t = some (.slice e)) (he : P.underlying e = some .string) (hc : P.cellsOf e = 1)
    (hv : Value.okWide P W r base t v) (h : DataW.Trod enc P W 0 (fun _ => true) true t v d ps) : ∃ ls, Strs W v ls := by
  obtain ⟨a, len, cap, rfl⟩ := okWide_slice ht hv
  obtain ⟨fuel, hf⟩ := h
  rcases open_strings ht he hc hf with ⟨hcs, _⟩ | ⟨x, l, c, ss, hcs, _, hl, _, hz, _, hcell, _⟩
  · simp [Value.cells] at hcs
    obtain ⟨rfl, rfl, rfl⟩ := hcs
    exact ⟨[], .inl ⟨_, _, rfl, rfl⟩⟩
  · simp [Value.cells] at hcs
    obtain ⟨rfl, rfl, rfl⟩ := hcs
    by_cases h0 : len = 0
    · subst h0; exact ⟨[], .inl ⟨_, _, rfl, rfl⟩⟩
    · simp only [if_true] at hz
      obtain ⟨b, off, spot⟩ := x
      have h00 := hcell 0 (by omega)
      have hspot : spot = none := by simpa [Addr.add] using World.cell?_spot h00
      subst hspot
      have hb : b < W.heap.size := by
        unfold World.cell? at h00
        split at h00
        · rename_i hh; exact (Array.getElem?_eq_some_iff.1 hh).1
        · cases h00
      refine ⟨(ss.take len).map S, .inr ⟨b, off, cap, ?_, ?_, hb, fun j y hj => ?_⟩⟩
      · simp; omega
      · simp; omega
      · rw [List.getElem?_map] at hj
        have hlt : j < len := by
          by_cases hj' : j < len
          · exact hj'
          · rw [List.getElem?_eq_none (by simp; omega)] at hj; cases hj
        have h1 := hcell j (by omega)
        rw [add_plain] at h1
        rw [h1]
        rw [List.getElem?_take, if_pos hlt, List.getElem?_eq_getElem (by omega)] at hj
        simp at hj
        rw [← hj, mk_S]
        simp [List.getD_eq_getElem?_getD, List.getElem?_eq_getElem (show j < ss.length by omega)]

/-- The shape of a slice of strings, whatever its length. -/
theorem Strs.shape {W : World} {v : Value} {ls : List Bs} {n : Nat} (h : Strs W v ls) (hn : ls.length = n) : ∃ ad cp, v = .slice ad n cp ∧ n ≤ cp ∧ ∀ k x, ls[k]? = some x → ∃ B off, ad = some ⟨B, off, none⟩ ∧ B < W.heap.size ∧ W.cell? ⟨B, off + k, none⟩ = some (.string (mk x)) := by
  rcases h with ⟨a, c, rfl, rfl⟩ | ⟨B, off, cap, rfl, hc, hB, hcell⟩
  · subst hn; exact ⟨a, c, rfl, Nat.zero_le _, fun k x hk => by simp at hk⟩
  · subst hn; exact ⟨_, _, rfl, hc, fun k x hk => ⟨B, off, rfl, hB, hcell k x hk⟩⟩

theorem joinR_labs {s : Bs} (h : validN s = true) : joinR (labs s) = (s, 0) := by
  unfold joinR
  rw [nameOf_labs, if_pos ⟨valid_okL h, valid_len h⟩]
theorem joinR_ok {l : List Bs} (h : okL l = true ∧ (nameOf l).length ≤ 60) : validN (nameOf l) = true ∧ labs (nameOf l) = l := by
  refine ⟨?_, labs_nameOf h.1⟩
  rw [validN_eq, labs_nameOf h.1, h.1]
  simp [h.2]
end NP
namespace Go.Proofs.Ytijbggmofdgphaa
open Go.RowKit Go.Shelf NP

set_option maxRecDepth 100000 in
set_option maxHeartbeats 8000000 in
theorem NameLabels_walk (s : ByteArray) (v : Value) (ls : List Bs) {w : World} (hs : Strs w v ls) :
    Calls Try.prog 7 #[.string s, v] w fun e w' => e = .returned (.bool true) ∧ Below w.heap.size w w' := by
  go_enter Try.func7, Try.ntmps7
  go_wp2_with fail
  refine (head_calls _).mono ?_
  rintro e w1 ⟨rfl, hB⟩
  go_wp2_with fail
  refine (Valid_calls _ _).mono ?_
  rintro e w2 ⟨rfl, hb'⟩
  replace hB := below_step hB hb'
  clear hb'
  have hs1 := hs.below hB
  clear hs
  -- the second half, in whatever world it begins
  cases hv : validN (S s) with
  | false =>
    go_wp2_with fail
    refine (Join_calls _ ls _ hs1).mono ?_
    rintro e w3 ⟨rfl, hb'⟩
    replace hs1 := hs1.below hb'
    replace hB := below_step hB hb'
    clear hb'
    by_cases hok : okL ls = true ∧ (nameOf ls).length ≤ 60
    rotate_left
    · have HR : Hid (joinR ls = ([], 11)) := by unfold Hid joinR; rw [if_neg hok]
      rw [HR.out]
      rw [show mk (([] : Bs), (11 : Int)).1 = ⟨#[]⟩ from rfl]
      clear hok hs1
      go_wp2
      go_ret
      exact ⟨rfl, hB⟩
    obtain ⟨hval, hlabs⟩ := joinR_ok hok
    have HR : Hid (joinR ls = (nameOf ls, 0)) := by unfold Hid joinR; rw [if_pos hok]
    obtain ⟨X, hX⟩ : ∃ X : ByteArray, mk (nameOf ls) = X := ⟨_, rfl⟩
    have HL2 : Hid (labelsR (S X) = (ls, 0)) := by rw [← hX, S_mk]; unfold Hid labelsR; rw [if_pos hval, hlabs]
    have hvX : validN (S X) = true := by rw [← hX, S_mk]; exact hval
    have n8' := okL_len hok.1
    rw [HR.out]
    rw [show mk (nameOf ls, (0 : Int)).1 = X from hX]
    clear hok hX hval hlabs HR
    go_wp2_with fail
    refine (Labels_calls _ _).mono ?_
    rintro e w6 ⟨u, rfl, hu, hb', _⟩
    replace hs1 := hs1.below hb'
    replace hB := below_step hB hb'
    clear hb'
    rw [HL2.out] at hu ⊢
    have hu' : Strs w6 u ls := hu
    clear hu HL2
    obtain ⟨n, hn⟩ : ∃ n, ls.length = n := ⟨_, rfl⟩
    rw [hn] at n8'
    obtain ⟨ad1, cp1, rfl, hcp1, hc1⟩ := hs1.shape hn
    obtain ⟨ad2, cp2, rfl, hcp2, hc2⟩ := hu'.shape hn
    have HN := Lib.hid hn
    clear hn hc1 hc2
    go_wp2_with (go_at_call 16; refine (Valid_calls _ _).mono ?_; rintro e w7 ⟨rfl, hb'⟩; replace hs1 := hs1.below hb'; replace hu' := hu'.below hb'; replace hB := below_step hB hb'; clear hb')
    have HC1 := Lib.hid (hs1.shape HN.out)
    have HC2 := Lib.hid (hu'.shape HN.out)
    clear hs1 hu'
    go_loopw [5, 81] (fun fd i wr => ∃ k : Nat, k ≤ n ∧ i = .int .i64 k ∧ fd = .bool true ∧ Below w7.heap.size w7 wr) (fun _ i _ => n - (intOf i).toNat)
    case atStart => exact ⟨0, by omega, rfl, rfl, Below.refl _ _⟩
    case round =>
      obtain ⟨k, hk, rfl, rfl, hbw⟩ := hrel
      by_cases hlt : k < n
      · obtain ⟨x, hx⟩ : ∃ x, ls[k]? = some x := ⟨_, List.getElem?_eq_getElem (by rw [HN.out]; exact hlt)⟩
        obtain ⟨_, _, e1, _, h1⟩ := HC1.out
        obtain ⟨B1, o1, ha1, hl1, hc1⟩ := h1 k x hx
        obtain ⟨_, _, e2, _, h2⟩ := HC2.out
        obtain ⟨B2, o2, ha2, hl2, hc2⟩ := h2 k x hx
        cases e1
        cases e2
        subst ha1
        subst ha2
        have g1 := (hbw.cell (p := ⟨B1, o1 + k, none⟩) hl1).trans hc1
        have g2 := (hbw.cell (p := ⟨B2, o2 + k, none⟩) hl2).trans hc2
        clear hx h1 h2 hc1 hc2
        go_wp2
        go_quiet (fail)
        go_wp2
        go_roundw
        case rel => exact ⟨k + 1, by omega, by go_num, by simp, below_drewN hbw nq⟩
        case measure => simp [intOf]; omega
      · go_wp2
        go_ret
        exact ⟨rfl, below_step hB hbw⟩
  | true =>
    have HL : Hid (labelsR (S s) = (labs (S s), 0)) := by unfold Hid labelsR; rw [if_pos hv]
    have HJ := Lib.hid (joinR_labs hv)
    have n8 := okL_len (valid_okL hv)
    go_wp2_with fail
    refine (Labels_calls _ _).mono ?_
    rintro e w3 ⟨u, rfl, hu, hb', _⟩
    replace hs1 := hs1.below hb'
    replace hB := below_step hB hb'
    clear hb'
    rw [HL.out] at hu ⊢
    have hu' : Strs w3 u (labs (S s)) := hu
    clear hu
    go_wp2_with fail
    refine (Join_calls _ (labs (S s)) _ hu').mono ?_
    rintro e w4 ⟨rfl, hb'⟩
    replace hs1 := hs1.below hb'
    replace hB := below_step hB hb'
    clear hb'
    rw [HJ.out]
    rw [show mk (S s, (0 : Int)).1 = s from mk_S s]
    obtain ⟨n, hn⟩ : ∃ n, (labs (S s)).length = n := ⟨_, rfl⟩
    rw [hn] at n8
    obtain ⟨ad, cp, rfl⟩ : ∃ ad cp, u = .slice ad n cp := by
      rcases hu' with ⟨_, _, rfl, h⟩ | ⟨B, off, cap, rfl, _, _, _⟩
      · rw [h] at hn; subst hn; exact ⟨_, _, rfl⟩
      · rw [hn]; exact ⟨_, _, rfl⟩
    clear hu' hn HL HJ
    go_wp2_with fail
    refine (Join_calls _ ls _ hs1).mono ?_
    rintro e w5 ⟨rfl, hb'⟩
    replace hs1 := hs1.below hb'
    replace hB := below_step hB hb'
    clear hb'
    by_cases hok : okL ls = true ∧ (nameOf ls).length ≤ 60
    rotate_left
    · have HR : Hid (joinR ls = ([], 11)) := by unfold Hid joinR; rw [if_neg hok]
      rw [HR.out]
      rw [show mk (([] : Bs), (11 : Int)).1 = ⟨#[]⟩ from rfl]
      clear hok hs1
      go_wp2
      go_ret
      exact ⟨rfl, hB⟩
    obtain ⟨hval, hlabs⟩ := joinR_ok hok
    have HR : Hid (joinR ls = (nameOf ls, 0)) := by unfold Hid joinR; rw [if_pos hok]
    obtain ⟨X, hX⟩ : ∃ X : ByteArray, mk (nameOf ls) = X := ⟨_, rfl⟩
    have HL2 : Hid (labelsR (S X) = (ls, 0)) := by rw [← hX, S_mk]; unfold Hid labelsR; rw [if_pos hval, hlabs]
    have hvX : validN (S X) = true := by rw [← hX, S_mk]; exact hval
    have n8' := okL_len hok.1
    rw [HR.out]
    rw [show mk (nameOf ls, (0 : Int)).1 = X from hX]
    clear hok hX hval hlabs HR
    go_wp2_with fail
    refine (Labels_calls _ _).mono ?_
    rintro e w6 ⟨u, rfl, hu, hb', _⟩
    replace hs1 := hs1.below hb'
    replace hB := below_step hB hb'
    clear hb'
    rw [HL2.out] at hu ⊢
    have hu' : Strs w6 u ls := hu
    clear hu HL2
    obtain ⟨n, hn⟩ : ∃ n, ls.length = n := ⟨_, rfl⟩
    rw [hn] at n8'
    obtain ⟨ad1, cp1, rfl, hcp1, hc1⟩ := hs1.shape hn
    obtain ⟨ad2, cp2, rfl, hcp2, hc2⟩ := hu'.shape hn
    have HN := Lib.hid hn
    clear hn hc1 hc2
    go_wp2_with (go_at_call 16; refine (Valid_calls _ _).mono ?_; rintro e w7 ⟨rfl, hb'⟩; replace hs1 := hs1.below hb'; replace hu' := hu'.below hb'; replace hB := below_step hB hb'; clear hb')
    have HC1 := Lib.hid (hs1.shape HN.out)
    have HC2 := Lib.hid (hu'.shape HN.out)
    clear hs1 hu'
    go_loopw [5, 81] (fun fd i wr => ∃ k : Nat, k ≤ n ∧ i = .int .i64 k ∧ fd = .bool true ∧ Below w7.heap.size w7 wr) (fun _ i _ => n - (intOf i).toNat)
    case atStart => exact ⟨0, by omega, rfl, rfl, Below.refl _ _⟩
    case round =>
      obtain ⟨k, hk, rfl, rfl, hbw⟩ := hrel
      by_cases hlt : k < n
      · obtain ⟨x, hx⟩ : ∃ x, ls[k]? = some x := ⟨_, List.getElem?_eq_getElem (by rw [HN.out]; exact hlt)⟩
        obtain ⟨_, _, e1, _, h1⟩ := HC1.out
        obtain ⟨B1, o1, ha1, hl1, hc1⟩ := h1 k x hx
        obtain ⟨_, _, e2, _, h2⟩ := HC2.out
        obtain ⟨B2, o2, ha2, hl2, hc2⟩ := h2 k x hx
        cases e1
        cases e2
        subst ha1
        subst ha2
        have g1 := (hbw.cell (p := ⟨B1, o1 + k, none⟩) hl1).trans hc1
        have g2 := (hbw.cell (p := ⟨B2, o2 + k, none⟩) hl2).trans hc2
        clear hx h1 h2 hc1 hc2
        go_wp2
        go_quiet (fail)
        go_wp2
        go_roundw
        case rel => exact ⟨k + 1, by omega, by go_num, by simp, below_drewN hbw nq⟩
        case measure => simp [intOf]; omega
      · go_wp2
        go_ret
        exact ⟨rfl, below_step hB hbw⟩
end Go.Proofs.Ytijbggmofdgphaa
