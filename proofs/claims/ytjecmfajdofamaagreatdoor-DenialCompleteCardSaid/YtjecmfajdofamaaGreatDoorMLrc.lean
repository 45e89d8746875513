/-
  Texts of the proof of the law DenialComplete, merged in build order.
-/
import Derived.Test.YtjecmfajdofamaaGreatDoorLrbM
import Derived.Test.YtjecmfajdofamaaGreatDoorMLcv
import Derived.Test.YtjecmfajdofamaaGreatDoorMVa
import Derived.Test.YtjecmfajdofamaaGreatDoorMQt
import Derived.Test.YtjecmfajdofamaaGreatDoorMCa
/-
  Reference 07 on plain data: Refer, Answer, Same.
-/
set_option linter.unusedSimpArgs false
set_option linter.unusedVariables false
set_option maxRecDepth 100000
namespace NP
open NQ Go
theorem cutOf_cut {z : Zone} {n : Bs} (ho : Ordered z) (h : cutOfR z n ≠ []) : validN (cutOfR z n) = true ∧ hasS z.sets ⟨cutOfR z n, 2⟩ = true := by
  unfold cutOfR at h ⊢
  cases hf : (cutsL z.apex z.sets).find? fun c => underN n c with
  | none => rw [hf] at h; exact absurd rfl h
  | some c =>
    have hm := List.mem_of_find?_eq_some hf
    obtain ⟨_, _, h3, _, h5⟩ := cut_ne ho hm
    exact ⟨h3, h5⟩
theorem has_exists {z : Zone} {q : Quest} (h : hasS z.sets q = true) : existsR z q.name = true := by
  obtain ⟨s, hs, hp⟩ := has_iff.1 h
  have : s.set.name = q.name := congrArg Prod.fst hp
  exact List.any_eq_true.2 ⟨s, hs, by rw [this]; exact under_self _⟩
def specialQ (q : Quest) : Bool := q.type == 6 || q.type == 8
end NP
namespace Go.Proofs.YtjecmfajdofamaaGreatDoor
open NQ Go NP Go.RowKit

end Go.Proofs.YtjecmfajdofamaaGreatDoor

/-
  Law 09's and reference 09's small functions on plain data: sets, usable, example, some, Bit, Has, Bare.
-/
set_option linter.unusedSimpArgs false
set_option linter.unusedVariables false
set_option maxRecDepth 100000
namespace NP
open NQ Go
end NP
namespace Go.Proofs.YtjecmfajdofamaaGreatDoor
open NQ Go NP Go.RowKit

theorem sets9_fn (l : List Signed) (hn : l.length ≤ 100000) : NQ.Fn cx 37 [.slice 5 (l.map signedD)] (.d (.slice 4 ((l.map Signed.set).map setD))) [] := by
  refine fn_of_vc tyOk mixed Tryz.func37 (by kernel_rfl) rfl (Nat.le_of_ble_eq_true rfl) ?_; conv => whnf
  refine ⟨Nat, fun k => ⟨[(3, .own 100), (6, .d (.slice 5 (l.map signedD))), (7, .d (.int .i64 (l.map signedD).length)), (8, .d (.int .i64 k))],
      [(100, .row 37 4 (((l.take k).map Signed.set).map setD))]⟩, fun k => k ≤ l.length, fun k => l.length - k,
    ⟨0, by omega, (Weak.promote 3 100 4 37 4 rfl rfl (by decide)).trans (Weak.keep ⟨⟨rfl, rfl⟩, ⟨rfl, rfl⟩, ⟨rfl, rfl⟩, ⟨rfl, rfl⟩, trivial⟩ ⟨⟨rfl, rfl⟩, trivial⟩)⟩, fun k hk => ?_⟩
  conv => whnf
  refine bcase_intro (fun h1 => ?_) (fun h1 => ?_) <;> (rw [h1]; conv => whnf)
  · have hlt : k < l.length := by simp at h1; omega
    obtain ⟨s, hs⟩ : ∃ s, l[k]? = some s := ⟨_, List.getElem?_eq_getElem hlt⟩
    have hln : (((l.take k).map Signed.set).map setD).length = k := by rw [List.length_map, List.length_map, List.length_take]; omega
    refine ⟨Int.natCast_nonneg k, signedD s, map_get hs, ?_⟩
    conv => whnf
    refine ⟨by (show (((l.take k).map Signed.set).map setD).length + 1 ≤ _; omega), by (show ((((l.take k).map Signed.set).map setD).length + 1) * 56 ≤ _; omega), ?_⟩
    conv => whnf
    refine ⟨k + 1, hlt, by (show l.length - (k + 1) < l.length - k; omega), Weak.keep ⟨⟨rfl, rfl⟩, ⟨rfl, rfl⟩, ⟨rfl, rfl⟩, ⟨wrap_succ (by omega), rfl⟩, trivial⟩ ⟨⟨by (show some (Blk.row _ _ (_ ++ _)) = some (Blk.row _ _ _); rw [take_snoc hs, List.map_append, List.map_append]; rfl), rfl⟩, trivial⟩⟩
  · obtain rfl : k = l.length := by simp at h1; omega
    refine ret_data rfl ?_
    rw [List.take_length]
    rfl
theorem usable9_fn (z : Zone) : NQ.Fn cx 16 [.agg (zoneD z)] (.d (.bool (decide (z.sets.length ≤ 60) && fewB z && validZ z))) [] := by
  refine fn_of_vc tyOk mixed Tryz.func16 (by kernel_rfl) rfl (Nat.le_of_ble_eq_true rfl) ?_; conv => whnf
  have e : decide (((z.sets.map signedD).length : Int) ≤ 60) = decide (z.sets.length ≤ 60) := by rw [List.length_map, decide_eq_decide]; omega
  rw [e]
  refine bcase_intro (fun h1 => ?_) (fun h1 => ?_) <;> (rw [h1]; conv => whnf)
  · (refine ⟨_, _, few_fn z, ?_⟩; conv => whnf)
    refine bcase_intro (fun h2 => ?_) (fun h2 => ?_) <;> (rw [h2]; conv => whnf)
    · have fV := validR_fn z (by simp at h1; omega)
      rw [valid_eq] at fV
      (refine ⟨_, _, fV, ?_⟩; conv => whnf)
      exact ret_data rfl rfl
    · exact ret_data rfl rfl
  · exact ret_data rfl rfl
theorem bit9_fn (t : Nat) : NQ.Fn cx 78 [.int .i64 t] (.d (.int .i64 (bitN t))) [] := by
  refine fn_of_vc tyOk mixed Tryz.func78 (by kernel_rfl) rfl (Nat.le_of_ble_eq_true rfl) ?_; conv => whnf
  exact ret_data rfl rfl
end Go.Proofs.YtjecmfajdofamaaGreatDoor

/-
  Reference 09's Bare; law 09's example and some, on plain data.
-/
set_option linter.unusedSimpArgs false
set_option linter.unusedVariables false
set_option maxRecDepth 100000
namespace NP
open NQ Go
def fzB : Nat → List Nat
  | 6 => [66666]
  | _ => []
def exS (n : Bs) (k : Int) (d : Datum) : Signed := ⟨⟨n, k, 60, [d]⟩, []⟩
def exZ : Zone := ⟨[120], [exS [120] 2 ⟨[97, 46, 110, 115], 0, 0⟩, exS [120] 4 ⟨[], 1, 30⟩, exS [119, 46, 120] 1 ⟨[], 7, 0⟩, exS [97, 46, 121, 46, 120] 5 ⟨[116], 0, 0⟩]⟩
end NP
namespace Go.Proofs.YtjecmfajdofamaaGreatDoor
open NQ Go NP Go.RowKit

noncomputable def cxB : Cx := { cx with bld := [30] }
theorem tyB : TyOk cxB := tyOk
theorem mixedB : cxB.P.follows .mixedOrders = true := mixed
theorem bare_fn (z : Zone) (hz : z.sets.length ≤ 100000) : NQ.Fn cx 19 [.agg (zoneD z)] (.agg ((zoneD (bareZ z)).map .d)) [] := by
  show NQ.Fn cxB _ _ _ _
  refine fn_of_vcz fzB tyB mixedB Tryz.func19 (by kernel_rfl) rfl (Nat.le_of_ble_eq_true rfl) ?_
  conv => whnf
  refine ⟨Nat, fun k => ⟨[(1, .ptr 1 0), (2, .ptr 2 0), (3, .ptr 3 0), (4, .d (.int .i64 k))],
      [(1, .box ((zoneD z).map .d)), (2, .box [.d (.str []), .nil 5]), (3, .box [.d (.str z.apex), .own 200]), (200, .row 40 5 (((z.sets.take k).filter notNext).map signedD))]⟩,
    fun k => k ≤ z.sets.length, fun k => z.sets.length - k, ⟨0, by omega, (Weak.promoteBox 3 1 200 5 [.d (.str z.apex), .nil 5] 40 5 rfl rfl rfl (by decide)).trans (Weak.keep ⟨⟨rfl, rfl⟩, ⟨rfl, rfl⟩, ⟨rfl, rfl⟩, ⟨rfl, rfl⟩, trivial⟩ ⟨⟨rfl, rfl⟩, ⟨rfl, rfl⟩, ⟨rfl, rfl⟩, ⟨rfl, rfl⟩, trivial⟩)⟩, fun k hk => ?_⟩
  conv => whnf
  refine bcase_intro (fun h1 => ?_) (fun h1 => ?_) <;> (rw [h1]; conv => whnf)
  · have hlt : k < z.sets.length := by simp at h1; omega
    obtain ⟨s, hs⟩ : ∃ s, z.sets[k]? = some s := ⟨_, List.getElem?_eq_getElem hlt⟩
    have hfl : ((z.sets.take k).filter notNext).length ≤ k := Nat.le_trans (List.length_filter_le _ _) (by rw [List.length_take]; omega)
    have hfs := filter_snoc (p := notNext) hs
    refine ⟨Int.natCast_nonneg k, signedD s, map_get hs, ?_⟩
    conv => whnf
    refine bcase_intro (fun h2 => ?_) (fun h2 => ?_) <;> (rw [h2]; conv => whnf)
    · rw [if_pos (show notNext s = true from h2)] at hfs
      (refine ⟨(by kernel_rfl : cleanOk _ = true), ?_⟩; conv => whnf)
      refine ⟨Int.natCast_nonneg k, signedD s, map_get hs, ?_⟩
      conv => whnf
      repeat' (first
        | (refine ⟨by kernel_rfl, ?_⟩; conv => whnf)
        | (refine ⟨by (show (((z.sets.take k).filter notNext).map signedD).length + 1 ≤ _; rw [List.length_map]; omega), by (show ((((z.sets.take k).filter notNext).map signedD).length + 1) * 80 ≤ _; rw [List.length_map]; omega), ?_⟩; conv => whnf)
        | fail)
      exact ⟨k + 1, hlt, by (show z.sets.length - (k + 1) < z.sets.length - k; omega), Weak.keep ⟨⟨rfl, rfl⟩, ⟨rfl, rfl⟩, ⟨rfl, rfl⟩, ⟨wrap_succ (by omega), rfl⟩, trivial⟩ ⟨⟨rfl, rfl⟩, ⟨rfl, rfl⟩, ⟨rfl, rfl⟩, ⟨by (show some (Blk.row _ _ (_ ++ _)) = some (Blk.row _ _ _); rw [hfs, List.map_append]; rfl), rfl⟩, trivial⟩⟩
    · rw [if_neg (by rw [show notNext s = false from h2]; decide), List.append_nil] at hfs
      exact ⟨k + 1, hlt, by (show z.sets.length - (k + 1) < z.sets.length - k; omega), Weak.keep ⟨⟨rfl, rfl⟩, ⟨rfl, rfl⟩, ⟨rfl, rfl⟩, ⟨wrap_succ (by omega), rfl⟩, trivial⟩ ⟨⟨rfl, rfl⟩, ⟨rfl, rfl⟩, ⟨rfl, rfl⟩, ⟨by (rw [hfs]; rfl), rfl⟩, trivial⟩⟩
  · obtain rfl : k = z.sets.length := by simp at h1; omega
    refine ret_data rfl ?_
    rw [List.take_length]
    rfl
theorem exset9_fn (n : Bs) (k : Int) (d : Datum) : NQ.Fn cx 151 [.str n, .int .i64 k, .agg (datumD d)] (.agg ((signedD (exS n k d)).map .d)) [] := by
  refine fn_of_vc tyOk mixed Tryz.func151 (by kernel_rfl) rfl (Nat.le_of_ble_eq_true rfl) ?_; conv => whnf
  exact ret_data rfl rfl
theorem example9_fn : NQ.Fn cx 57 [] (.agg ((zoneD exZ).map .d)) [] := by
  refine fn_of_vc tyOk mixed Tryz.func57 (by kernel_rfl) rfl (Nat.le_of_ble_eq_true rfl) ?_; conv => whnf
  (refine ⟨_, _, exset9_fn [120] 2 ⟨[97, 46, 110, 115], 0, 0⟩, ?_⟩; conv => whnf)
  (refine ⟨_, _, exset9_fn [120] 4 ⟨[], 1, 30⟩, ?_⟩; conv => whnf)
  (refine ⟨_, _, exset9_fn [119, 46, 120] 1 ⟨[], 7, 0⟩, ?_⟩; conv => whnf)
  (refine ⟨_, _, exset9_fn [97, 46, 121, 46, 120] 5 ⟨[116], 0, 0⟩, ?_⟩; conv => whnf)
  exact ret_data rfl rfl
end Go.Proofs.YtjecmfajdofamaaGreatDoor

/-
  Plain: the reference's answer is lookup's answer.
-/
set_option linter.unusedSimpArgs false
set_option linter.unusedVariables false
set_option maxRecDepth 100000
namespace NP
open NQ Go
theorem place_inj {sets : List Signed} (hr : RP sets) {i j : Nat} {a b : Signed} (ha : sets[i]? = some a) (hb : sets[j]? = some b) (h : a.place = b.place) : i = j := by
  have hp := List.pairwise_iff_getElem.1 hr
  obtain ⟨hi, e1⟩ := List.getElem?_eq_some_iff.1 ha
  obtain ⟨hj, e2⟩ := List.getElem?_eq_some_iff.1 hb
  rcases Nat.lt_trichotomy i j with hlt | heq | hlt
  · exact absurd h (by have := hp i j hi hj hlt; rw [e1, e2] at this; exact cpl_lt_ne this)
  · exact heq
  · exact absurd h.symm (by have := hp j i hj hi hlt; rw [e1, e2] at this; exact cpl_lt_ne this)
theorem cN_flip {a b : Bs} (h : compareN a b ≤ 0) : 0 ≤ compareN b a := by have := compareN_ord.anti a b; omega
theorem cN_flip' {a b : Bs} (h : 0 ≤ compareN a b) : compareN b a ≤ 0 := by have := compareN_ord.anti a b; omega
theorem underR_eq {s n : Bs} (hs : validN s = true) (hn : validN n = true) : (underR s n).1 = underN s n := by unfold underR; rw [if_pos ⟨hs, hn⟩]
theorem exB_exists {z : Zone} (ho : Ordered z) {n : Bs} (hn : validN n = true) : exB z.sets n = existsR z n := by
  have hp := rising_pw ho.rising
  have ge : ∀ s ∈ z.sets, underN s.set.name n = true → ∃ i, z.sets[i]? = some s ∧ posN z.sets n ≤ i := fun s hs hu => by
    obtain ⟨i, hi⟩ := List.getElem?_of_mem hs
    exact ⟨i, hi, (posN_iff hp hi).2 (cN_flip (stretch1 hu))⟩
  unfold exB existsR
  cases hg : z.sets[posN z.sets n]? with
  | none =>
    symm
    rw [List.any_eq_false]
    intro s hs hu
    obtain ⟨i, hi, hle⟩ := ge s hs hu
    have h1 := (List.getElem?_eq_some_iff.1 hi).1
    have h2 := List.getElem?_eq_none_iff.1 hg
    omega
  | some t =>
    have htm := List.mem_of_getElem? hg
    simp only
    rw [underR_eq (ho.name t htm) hn]
    cases hu : underN t.set.name n with
    | true => symm; exact List.any_eq_true.2 ⟨t, htm, hu⟩
    | false =>
      symm
      rw [List.any_eq_false]
      intro s hs hus
      obtain ⟨i, hi, hle⟩ := ge s hs hus
      have hnt : compareN n t.set.name ≤ 0 := cN_flip' ((posN_iff hp hg).1 (Nat.le_refl _))
      have hts : compareN t.set.name s.set.name ≤ 0 := by
        rcases Nat.lt_or_eq_of_le hle with hlt | heq
        · obtain ⟨h1, e1⟩ := List.getElem?_eq_some_iff.1 hg
          obtain ⟨h2, e2⟩ := List.getElem?_eq_some_iff.1 hi
          have := List.pairwise_iff_getElem.1 hp _ _ h1 h2 hlt
          rwa [e1, e2] at this
        · rw [← heq, hg] at hi; cases hi
          have := (compareN_ord.zero t.set.name t.set.name).2 rfl
          omega
      have := stretch2 (under_self n) hus hnt hts
      rw [hu] at this; cases this
end NP

/-
  Plain: the sets of an answer are sets of the zone, no two of one place.
-/
set_option linter.unusedSimpArgs false
set_option linter.unusedVariables false
set_option maxRecDepth 100000
namespace NP
open NQ Go
theorem noData_sets (v : View) : (noDataV v).sets = v.sets := by unfold noDataV; split <;> rfl
end NP

/-
  Plain: what the answer is for a zone and a question that are usable.
-/
set_option linter.unusedSimpArgs false
set_option linter.unusedVariables false
set_option maxRecDepth 100000
namespace NP
open NQ Go
/-- A zone and a question that the laws speak of. -/
structure Use (z : Zone) (q : Quest) : Prop where
  few : fewB z = true
  val : validZ z = true
  quest : questB q = true
  under : underN q.name z.apex = true
theorem Use.name {z : Zone} {q : Quest} (u : Use z q) : validN q.name = true := by have := u.quest; unfold questB at this; simp only [Bool.and_eq_true] at this; exact this.1.1
theorem Use.ord {z : Zone} {q : Quest} (u : Use z q) : Ordered z := validZ_ordered u.val
def vw (z : Zone) (q : Quest) : View := viewOf z q (cutOfR z q.name) (!(cutOfR z q.name == []))
theorem Use.cut {z : Zone} {q : Quest} (u : Use z q) : cutR z q.name = (cutOfR z q.name, !(cutOfR z q.name == []), 0) := cutR_eq u.val u.name u.under
theorem Use.ans {z : Zone} {q : Quest} (u : Use z q) : ansR z q = (ansV (vw z q), 0) := by
  have hq := u.quest
  unfold questB at hq
  simp only [Bool.and_eq_true, decide_eq_true_eq] at hq
  unfold ansR
  rw [if_neg (by simp; omega), u.cut]
  rfl
theorem vw_refer (z : Zone) (q : Quest) : referB (vw z q) = (!(cutOfR z q.name == []) && !((cutOfR z q.name == q.name) && specialQ q)) := by
  unfold referB atCutB specialQ vw viewOf
  dsimp only
  rw [Bool.beq_comm (a := q.name) (b := cutOfR z q.name)]
  cases (cutOfR z q.name == []) <;> cases (cutOfR z q.name == q.name) <;> simp
/-- Which kind an answer has. -/
theorem ansV_kind (v : View) : (ansV v).kind = if referB v = true then 4 else if dataB v = true then 1 else if aliasB v = true then 3 else if exB v.sets v.q.name = true then 5
    else if wildB (noDataV v) = true then 2 else if wildAliasB (noDataV v) = true then 3 else if wildNoB (noDataV v) = true then 5 else 6 := by
  unfold ansV
  split
  · rename_i h; unfold referA; rw [if_pos h]
  split
  · rfl
  split
  · rfl
  split
  · rename_i h; unfold noDataA; rw [if_pos h]
  split
  · rfl
  split
  · rfl
  split
  · rename_i h; unfold wildNoA; rw [if_pos h]
  · rfl
theorem data_has (z : Zone) (q : Quest) : dataB (vw z q) = hasS z.sets q := by
  have h := atI_neg z.sets q
  show decide (atI z.sets q ≥ 0) = _
  cases hh : hasS z.sets q with
  | true =>
    rw [hh] at h
    have : ¬ atI z.sets q < 0 := by simpa using h
    exact decide_eq_true (by omega)
  | false =>
    rw [hh] at h
    have : atI z.sets q < 0 := by simpa using h
    exact decide_eq_false (by omega)
theorem pick_one {z : Zone} (ho : Ordered z) {q : Quest} {s : Signed} (hs : s ∈ z.sets) (hp : s.place = q.place) : pickS z.sets [] [atI z.sets q] = [s] := by
  obtain ⟨k, t, h1, h2, h3⟩ := at_is (has_iff.2 ⟨s, hs, hp⟩)
  have : t = s := RP.uniq ho.rising.pw (List.mem_of_getElem? h2) hs (h3.trans hp.symm)
  subst this
  rw [h1, pickS]
  simp [h2, pickS]
theorem Use.data {z : Zone} {q : Quest} (u : Use z q) (hr : referB (vw z q) = false) {s : Signed} (hs : s ∈ z.sets) (hp : s.place = q.place) : (ansR z q).1 = ⟨1, [s], []⟩ := by
  rw [u.ans]
  show ansV (vw z q) = _
  unfold ansV
  rw [if_neg (by simp [hr]), if_pos (by rw [data_has]; exact has_iff.2 ⟨s, hs, hp⟩)]
  unfold dataA
  have := pick_one u.ord hs hp
  show (⟨1, pickS z.sets [] [atI z.sets q], []⟩ : Ans) = _
  rw [this]
/-- What is found. -/
theorem Use.find {z : Zone} {q : Quest} (u : Use z q) : ∃ s has, findR z q = (s, has, 0) ∧ has = hasS z.sets q ∧ (has = true → s ∈ z.sets ∧ s.place = q.place) := by
  cases hh : hasS z.sets q with
  | true =>
    obtain ⟨s, h1, h2, h3⟩ := find_is u.val u.quest hh
    exact ⟨s, true, h3, rfl, fun _ => ⟨h1, h2⟩⟩
  | false => exact ⟨_, false, find_not u.val u.quest hh, rfl, fun h => by cases h⟩
end NP

/-
  Plain: answers of a zone into which a set is put, or from which one is dropped; wildcards; names that do not exist.
-/
set_option linter.unusedSimpArgs false
set_option linter.unusedVariables false
set_option maxRecDepth 100000
namespace NP
open NQ Go
theorem ans_val {z : Zone} {q : Quest} (hv : validZ z = true) (hq : questB q = true) (hu : underN q.name z.apex = true) : ansR z q = (ansV (vw z q), 0) := by
  have hn : validN q.name = true := by have := hq; unfold questB at this; simp only [Bool.and_eq_true] at this; exact this.1.1
  have hq' := hq
  unfold questB at hq'
  simp only [Bool.and_eq_true, decide_eq_true_eq] at hq'
  unfold ansR
  rw [if_neg (by simp; omega), cutR_eq hv hn hu]
  rfl
theorem cutsL_congr {z y : Zone} (ha : y.apex = z.apex) (h : ∀ s : Signed, s.set.type = 2 → (s ∈ y.sets ↔ s ∈ z.sets)) (c : Bs) : c ∈ cutsL y.apex y.sets ↔ c ∈ cutsL z.apex z.sets := by
  rw [cutsL_iff, cutsL_iff, ha]
  have ht : ∀ s : Signed, isCutAt z.apex s = true → s.set.type = 2 := fun s hs => by unfold isCutAt at hs; simp only [Bool.and_eq_true, beq_iff_eq] at hs; exact hs.1
  constructor
  · rintro ⟨s, h1, h2, h3⟩; exact ⟨s, (h s (ht s h2)).1 h1, h2, h3⟩
  · rintro ⟨s, h1, h2, h3⟩; exact ⟨s, (h s (ht s h2)).2 h1, h2, h3⟩
theorem exists_name {z : Zone} {n : Bs} {s : Signed} (hs : s ∈ z.sets) (hu : underN s.set.name n = true) : existsR z n = true := List.any_eq_true.2 ⟨s, hs, hu⟩
theorem no_name {z : Zone} {n : Bs} (h : existsR z n = false) (t : Int) : hasS z.sets ⟨n, t⟩ = false := by
  cases hh : hasS z.sets ⟨n, t⟩ with
  | false => rfl
  | true => have := has_exists hh; rw [h] at this; cases this
theorem star_wild {m : Bs} (h : starR m ≠ []) : wildN (starR m) = true := by
  unfold starR at h ⊢
  unfold joinR at h ⊢
  split
  · show wildN (nameOf ([42] :: labs m)) = true
    rw [nameOf_ne (by simp)]
    cases labs m with
    | nil => rfl
    | cons x t => rw [joinDot_cons _ _ (by simp)]; rfl
  · rename_i hc; rw [if_neg hc] at h; exact absurd rfl h
theorem wild_star {v : View} (hx : exB v.sets v.q.name = false) : (noDataV v).wild = starR (closeB v.apex v.sets v.q.name) := by
  unfold noDataV; rw [if_neg (by simp [hx])]
theorem star_ok' (n : Bs) : starR n = [] ∨ validN (starR n) = true := by
  unfold starR
  unfold joinR
  split
  · rename_i h; exact .inr (join_ok h).1
  · exact .inl rfl
theorem Use.wild {z : Zone} {q : Quest} (u : Use z q) (hk : (ansR z q).1.kind = 2) : referB (vw z q) = false ∧ existsR z q.name = false ∧ ∃ s0 R, (ansR z q).1.sets = s0 :: R ∧ wildN s0.set.name = true ∧ s0.set.type = q.type := by
  have ho := u.ord
  rw [u.ans] at hk ⊢
  have hk' : (ansV (vw z q)).kind = 2 := hk
  rw [ansV_kind] at hk'
  cases hr : referB (vw z q) with
  | true => rw [hr] at hk'; simp at hk'
  | false =>
  cases hd : dataB (vw z q) with
  | true => rw [hr, hd] at hk'; simp at hk'
  | false =>
  cases ha : aliasB (vw z q) with
  | true => rw [hr, hd, ha] at hk'; simp at hk'
  | false =>
  cases hx : exB (vw z q).sets (vw z q).q.name with
  | true => rw [hr, hd, ha, hx] at hk'; simp at hk'
  | false =>
  cases hw : wildB (noDataV (vw z q)) with
  | false =>
    rw [hr, hd, ha, hx, hw] at hk'
    simp only [Bool.false_eq_true, ↓reduceIte] at hk'
    exfalso
    revert hk'
    repeat' split
    all_goals omega
  | true =>
  have hx' : existsR z q.name = false := by rw [← exB_exists ho u.name]; exact hx
  refine ⟨rfl, hx', ?_⟩
  have hans : ansV (vw z q) = wildA (noDataV (vw z q)) := by
    unfold ansV
    rw [if_neg (by simp [hr]), if_neg (by simp [hd]), if_neg (by simp [ha]), if_neg (by simp [hx]), if_pos hw]
  have hq : (noDataV (vw z q)).q = q := by unfold noDataV; split <;> rfl
  have hs : (noDataV (vw z q)).sets = z.sets := noData_sets _
  have hat : 0 ≤ atI z.sets ⟨(noDataV (vw z q)).wild, q.type⟩ := by
    unfold wildB at hw
    rw [hs, hq] at hw
    simpa using hw
  obtain ⟨k, s, h1, h2, h3⟩ := at_is (l := z.sets) (q := ⟨(noDataV (vw z q)).wild, q.type⟩) (by
    have := atI_neg z.sets ⟨(noDataV (vw z q)).wild, q.type⟩
    cases hh : hasS z.sets ⟨(noDataV (vw z q)).wild, q.type⟩ with
    | true => rfl
    | false => rw [hh] at this; simp at this; omega)
  have hsn : s.set.name = (noDataV (vw z q)).wild := congrArg Prod.fst h3
  have hst : s.set.type = q.type := congrArg Prod.snd h3
  refine ⟨s, pickS z.sets ([] ++ [((k : Nat) : Int)]) [covI z.sets q.name], ?_, ?_, hst⟩
  · show (ansV (vw z q)).sets = _
    rw [hans]
    unfold wildA
    rw [hs, hq, h1]
    show pickS z.sets [] [((k : Nat) : Int), covI z.sets q.name] = _
    rw [pickS, if_neg (by simp)]
    simp [h2]
  · rw [hsn, wild_star hx]
    refine star_wild ?_
    rw [← wild_star hx, ← hsn]
    exact valid_ne_nil (ho.name s (List.mem_of_getElem? h2))
/-- A name that does not exist. -/
theorem Use.none {z : Zone} {q : Quest} (u : Use z q) (hk : (ansR z q).1.kind = 6) : existsR z q.name = false ∧ cutOfR z q.name = [] ∧ ((noDataV (vw z q)).wild = [] ∨ existsR z (noDataV (vw z q)).wild = false) := by
  have ho := u.ord
  rw [u.ans] at hk
  have hk' : (ansV (vw z q)).kind = 6 := hk
  rw [ansV_kind] at hk'
  cases hr : referB (vw z q) with
  | true => rw [hr] at hk'; simp at hk'
  | false =>
  cases hd : dataB (vw z q) with
  | true => rw [hr, hd] at hk'; simp at hk'
  | false =>
  cases ha : aliasB (vw z q) with
  | true => rw [hr, hd, ha] at hk'; simp at hk'
  | false =>
  cases hx : exB (vw z q).sets (vw z q).q.name with
  | true => rw [hr, hd, ha, hx] at hk'; simp at hk'
  | false =>
  have hx' : existsR z q.name = false := by rw [← exB_exists ho u.name]; exact hx
  cases hw : wildB (noDataV (vw z q)) with
  | true => rw [hr, hd, ha, hx, hw] at hk'; simp at hk'
  | false =>
  cases hwa : wildAliasB (noDataV (vw z q)) with
  | true => rw [hr, hd, ha, hx, hw, hwa] at hk'; simp at hk'
  | false =>
  cases hwn : wildNoB (noDataV (vw z q)) with
  | true => rw [hr, hd, ha, hx, hw, hwa, hwn] at hk'; simp at hk'
  | false =>
  refine ⟨hx', ?_, ?_⟩
  · cases hc : (cutOfR z q.name == []) with
    | true => simpa using hc
    | false =>
      have hne : cutOfR z q.name ≠ [] := by simpa using hc
      rw [vw_refer, hc] at hr
      simp only [Bool.not_false, Bool.true_and, Bool.not_eq_false', Bool.and_eq_true, beq_iff_eq] at hr
      obtain ⟨_, h2⟩ := cutOf_cut ho hne
      have := has_exists h2
      rw [hr.1] at this
      rw [hx'] at this; cases this
  · unfold wildNoB at hwn
    rw [noData_sets] at hwn
    cases hw0 : ((noDataV (vw z q)).wild == []) with
    | true => exact .inl (by simpa using hw0)
    | false =>
      rw [hw0] at hwn
      have hwne : (noDataV (vw z q)).wild ≠ [] := by simpa using hw0
      have hwv : validN (noDataV (vw z q)).wild = true := by
        rw [wild_star hx] at hwne ⊢
        have := star_ok' (closeB (vw z q).apex (vw z q).sets (vw z q).q.name)
        exact this.resolve_left hwne
      refine .inr ?_
      rw [← exB_exists ho hwv]
      have h5 : (!false && exB (vw z q).sets (noDataV (vw z q)).wild) = false := hwn
      rw [Bool.not_false, Bool.true_and] at h5
      exact h5
end NP

/-
  Plain laws of the chain: the zone without next sets; sets and next sets woven.
-/
set_option linter.unusedSimpArgs false
set_option linter.unusedVariables false
set_option maxRecDepth 100000
namespace NP
open NQ Go
theorem bare_mem {z : Zone} {s : Signed} : s ∈ (bareZ z).sets ↔ s ∈ z.sets ∧ s.set.type ≠ 8 := by
  unfold bareZ notNext
  simp [List.mem_filter]
theorem bare_ordered {z : Zone} (ho : Ordered z) : Ordered (bareZ z) :=
  ⟨ho.apex, ho.tame, Nat.le_trans (List.length_filter_le _ _) ho.few, fun s hs => ho.set s (bare_mem.1 hs).1, fun s hs => ho.under s (bare_mem.1 hs).1, RP.rising (ho.rising.pw.filter _)⟩
theorem bare_cuts {z : Zone} (c : Bs) : c ∈ cutsL (bareZ z).apex (bareZ z).sets ↔ c ∈ cutsL z.apex z.sets :=
  cutsL_congr (z := z) (y := bareZ z) rfl (fun s hs => ⟨fun h => (bare_mem.1 h).1, fun h => bare_mem.2 ⟨h, by rw [hs]; decide⟩⟩) c
theorem bare_spec {z : Zone} (ho : Ordered z) (n : Bs) : spec (highest (bareZ z)) n = spec (highest z) n :=
  spec_congr (bare_ordered ho) ho bare_cuts n
theorem bare_valid {z : Zone} (hv : validZ z = true) : validZ (bareZ z) = true := by
  have V := val_iff.1 hv
  have ho := V.ord
  have hy := bare_ordered ho
  refine sub_valid hv rfl hy (fun x hx => (bare_mem.1 hx).1) ?_ ?_ ?_
  · obtain ⟨s, hs, hp⟩ := has_iff.1 V.start
    exact has_iff.2 ⟨s, bare_mem.2 ⟨hs, by have : s.set.type = 4 := congrArg Prod.snd hp; omega⟩, hp⟩
  · obtain ⟨s, hs, hp⟩ := has_iff.1 V.serv
    exact has_iff.2 ⟨s, bare_mem.2 ⟨hs, by have : s.set.type = 2 := congrArg Prod.snd hp; omega⟩, hp⟩
  · refine (cuts_rule hy).2 fun s hs => ?_
    rw [bare_spec ho]
    exact V.cut s (bare_mem.1 hs).1
def wv : List Signed → List RSet → List Signed
  | [], _ => []
  | s :: t, nx => if sameNext s t = true then s :: wv t nx else if headIs s nx = true then s :: ((match nx with | y :: _ => [⟨y, []⟩] | [] => []) ++ wv t nx.tail) else s :: wv t nx
theorem wv_cons (s : Signed) (t : List Signed) (nx : List RSet) : wv (s :: t) nx = if sameNext s t = true then s :: wv t nx else if headIs s nx = true then s :: ((match nx with | y :: _ => [⟨y, []⟩] | [] => []) ++ wv t nx.tail) else s :: wv t nx := by
  conv => lhs; rw [wv.eq_def]
theorem weave_wv : ∀ (l : List Signed) (nx : List RSet) (acc : List Signed), weave l nx acc = acc ++ wv l nx
  | [], nx, acc => by rw [weave_nil, wv.eq_def]; simp
  | s :: t, nx, acc => by
    rw [weave_cons, wv_cons]
    split
    · rw [weave_wv t nx]; simp
    · split
      · rw [weave_wv t nx.tail]; cases nx <;> simp
      · rw [weave_wv t nx]; simp
theorem cpl_name {a b : Bs × Int} (h : compareN a.1 b.1 < 0) : cpl a b < 0 := by
  unfold cpl lex
  rw [if_neg (by omega)]
  exact h
theorem cpl_type {a b : Bs × Int} (h : a.1 = b.1) (k : a.2 < b.2) : cpl a b < 0 := by
  unfold cpl lex
  rw [if_pos (by rw [h]; exact (compareN_ord.zero _ _).2 rfl)]
  unfold cmpInt
  simp [k]
theorem cpl_inv {a b : Bs × Int} (h : cpl a b < 0) : compareN a.1 b.1 < 0 ∨ (a.1 = b.1 ∧ a.2 < b.2) := by
  unfold cpl lex at h
  split at h
  · rename_i e
    right
    refine ⟨(compareN_ord.zero _ _).1 e, ?_⟩
    unfold cmpInt at h
    split at h
    · assumption
    · split at h <;> omega
  · exact .inl h
theorem name_lt {a b : Bs × Int} (h : cpl a b < 0) (hne : a.1 ≠ b.1) : compareN a.1 b.1 < 0 := by
  rcases cpl_inv h with h | ⟨h, _⟩
  · exact h
  · exact absurd h hne
theorem name_le {a b : Bs × Int} (h : cpl a b < 0) : compareN a.1 b.1 ≤ 0 := by
  rcases cpl_inv h with h | ⟨h, _⟩
  · omega
  · rw [h]; have := (compareN_ord.zero b.1 b.1).2 rfl; omega
/-- Sets in order, and next sets of some of their names, woven: in order, and all of them. -/
theorem wv_spec : ∀ (l : List Signed) (nx : List RSet), RP l → (∀ s ∈ l, s.set.type < 8) → nx.Pairwise (fun a b => compareN a.name b.name < 0) → (∀ y ∈ nx, y.type = 8 ∧ ∃ s ∈ l, s.set.name = y.name) →
    RP (wv l nx) ∧ ∀ x, x ∈ wv l nx ↔ x ∈ l ∨ ∃ y ∈ nx, x = ⟨y, []⟩
  | [], nx, _, _, _, hw => by
    have : nx = [] := by
      cases nx with
      | nil => rfl
      | cons y t => obtain ⟨_, s, hs, _⟩ := hw y (List.mem_cons_self ..); cases hs
    subst this
    rw [wv.eq_def]
    exact ⟨List.Pairwise.nil, fun x => by simp⟩
  | s :: t, nx, hr, h8, ha, hw => by
    obtain ⟨h1, h2⟩ := List.pairwise_cons.1 hr
    have ht8 : ∀ x ∈ t, x.set.type < 8 := fun x hx => h8 x (List.mem_cons_of_mem _ hx)
    have hs8 := h8 s (List.mem_cons_self ..)
    have L : ∀ y ∈ nx, cpl s.place (y.name, y.type) < 0 := fun y hy => by
      obtain ⟨hy8, w, hwm, hwn⟩ := hw y hy
      rcases List.mem_cons.1 hwm with rfl | hwt
      · exact cpl_type hwn (by show w.set.type < _; omega)
      · rcases cpl_inv (h1 w hwt) with k | ⟨k, _⟩
        · exact cpl_name (by rw [← hwn]; exact k)
        · exact cpl_type (by rw [← hwn]; exact k) (by show s.set.type < _; omega)
    have consRP : ∀ {nx' : List RSet}, (∀ y ∈ nx', y ∈ nx) → (RP (wv t nx') ∧ ∀ x, x ∈ wv t nx' ↔ x ∈ t ∨ ∃ y ∈ nx', x = ⟨y, []⟩) → RP (s :: wv t nx') := fun hsub ih => List.pairwise_cons.2 ⟨fun x hx => by
      rcases (ih.2 x).1 hx with hx | ⟨y, hy, rfl⟩
      · exact h1 x hx
      · exact L y (hsub y hy), ih.1⟩
    rw [wv_cons]
    by_cases hsame : sameNext s t = true
    · rw [if_pos hsame]
      have ih := wv_spec t nx h2 ht8 ha (fun y hy => by
        obtain ⟨hy8, w, hwm, hwn⟩ := hw y hy
        refine ⟨hy8, ?_⟩
        rcases List.mem_cons.1 hwm with rfl | hwt
        · cases t with
          | nil => cases hsame
          | cons x t' => exact ⟨x, List.mem_cons_self .., (by simpa [sameNext] using hsame : x.set.name = w.set.name).trans hwn⟩
        · exact ⟨w, hwt, hwn⟩)
      exact ⟨consRP (fun y hy => hy) ih, fun x => by rw [List.mem_cons, ih.2 x, List.mem_cons]; exact or_assoc.symm⟩
    · rw [if_neg hsame]
      have hlt : ∀ x ∈ t, compareN s.set.name x.set.name < 0 := by
        cases t with
        | nil => intro x hx; cases hx
        | cons x0 t' =>
          have h0 : compareN s.set.name x0.set.name < 0 := name_lt (h1 x0 (List.mem_cons_self ..)) (fun e => hsame (by simp only [sameNext, beq_iff_eq]; exact e.symm))
          intro x hx
          rcases List.mem_cons.1 hx with rfl | hx
          · exact h0
          · exact compareN_ord.lt_le h0 (name_le ((List.pairwise_cons.1 h2).1 x hx))
      cases nx with
      | nil =>
        rw [if_neg (by simp [headIs])]
        have ih := wv_spec t [] h2 ht8 ha (fun y hy => by cases hy)
        exact ⟨consRP (fun y hy => hy) ih, fun x => by rw [List.mem_cons, ih.2 x, List.mem_cons]; exact or_assoc.symm⟩
      | cons y nx =>
        obtain ⟨a1, a2⟩ := List.pairwise_cons.1 ha
        obtain ⟨hy8, w, hwm, hwn⟩ := hw y (List.mem_cons_self ..)
        by_cases hh : headIs s (y :: nx) = true
        · rw [if_pos hh]
          have hyn : y.name = s.set.name := by simpa [headIs] using hh
          have ih := wv_spec t nx h2 ht8 a2 (fun y' hy' => by
            obtain ⟨hy8', w', hwm', hwn'⟩ := hw y' (List.mem_cons_of_mem _ hy')
            refine ⟨hy8', ?_⟩
            rcases List.mem_cons.1 hwm' with rfl | hwt
            · have := a1 y' hy'
              rw [hyn, hwn', (compareN_ord.zero _ _).2 rfl] at this
              omega
            · exact ⟨w', hwt, hwn'⟩)
          have hR := consRP (nx' := nx) (fun y' hy' => List.mem_cons_of_mem _ hy') ih
          obtain ⟨r1, r2⟩ := List.pairwise_cons.1 hR
          refine ⟨?_, fun x => ?_⟩
          · show RP (s :: (([⟨y, []⟩] : List Signed) ++ wv t nx))
            refine List.pairwise_cons.2 ⟨fun x hx => ?_, List.pairwise_cons.2 ⟨fun x hx => ?_, ih.1⟩⟩
            · rcases List.mem_cons.1 hx with rfl | hx
              · exact L y (List.mem_cons_self ..)
              · exact r1 x hx
            · rcases (ih.2 x).1 hx with hx | ⟨y', hy', rfl⟩
              · exact cpl_name (by show compareN y.name x.set.name < 0; rw [hyn]; exact hlt x hx)
              · exact cpl_name (a1 y' hy')
          · show x ∈ s :: (([⟨y, []⟩] : List Signed) ++ wv t nx) ↔ _
            rw [List.mem_cons, List.mem_append, List.mem_singleton, ih.2 x, List.mem_cons]
            constructor
            · rintro (h | h | h | ⟨y', hy', h⟩)
              · exact .inl (.inl h)
              · exact .inr ⟨y, List.mem_cons_self .., h⟩
              · exact .inl (.inr h)
              · exact .inr ⟨y', List.mem_cons_of_mem _ hy', h⟩
            · rintro ((h | h) | ⟨y', hy', h⟩)
              · exact .inl h
              · exact .inr (.inr (.inl h))
              · rcases List.mem_cons.1 hy' with rfl | hy'
                · exact .inr (.inl h)
                · exact .inr (.inr (.inr ⟨y', hy', h⟩))
        · rw [if_neg hh]
          have hyn : y.name ≠ s.set.name := fun e => hh (by simp only [headIs, beq_iff_eq]; exact e)
          have hy0 : compareN s.set.name y.name < 0 := by
            rcases List.mem_cons.1 hwm with rfl | hwt
            · exact absurd hwn.symm hyn
            · rw [← hwn]; exact hlt w hwt
          have ih := wv_spec t (y :: nx) h2 ht8 ha (fun y' hy' => by
            obtain ⟨hy8', w', hwm', hwn'⟩ := hw y' hy'
            refine ⟨hy8', ?_⟩
            rcases List.mem_cons.1 hwm' with rfl | hwt
            · exfalso
              have : compareN w'.set.name y'.name < 0 := by
                rcases List.mem_cons.1 hy' with rfl | hy'
                · exact hy0
                · exact compareN_ord.lt_le hy0 (by have := a1 y' hy'; omega)
              rw [hwn', (compareN_ord.zero _ _).2 rfl] at this
              omega
            · exact ⟨w', hwt, hwn'⟩)
          exact ⟨consRP (fun y hy => hy) ih, fun x => by rw [List.mem_cons, ih.2 x, List.mem_cons]; exact or_assoc.symm⟩
end NP

/-
  Plain laws of the bits of next sets.
-/
set_option linter.unusedSimpArgs false
set_option linter.unusedVariables false
set_option maxRecDepth 100000
namespace NP
open NQ Go
theorem bv_nat (a : Nat) (h : a < 1024) : (BitVec.ofInt 64 (a : Int)).toNat = a := by
  rw [BitVec.ofInt_natCast, BitVec.toNat_ofNat, Nat.mod_eq_of_lt (by omega)]
theorem bOr_nat {a b : Nat} (ha : a < 1024) (hb : b < 1024) : bOr .i64 (a : Int) (b : Int) = ((a ||| b : Nat) : Int) ∧ a ||| b < 1024 := by
  have h : a ||| b < 1024 := Nat.or_lt_two_pow (n := 10) ha hb
  refine ⟨?_, h⟩
  unfold bOr
  show IntKind.i64.wrap (((BitVec.ofInt 64 (a : Int) ||| BitVec.ofInt 64 (b : Int)).toNat : Nat) : Int) = _
  rw [BitVec.toNat_or, bv_nat a ha, bv_nat b hb, wrap_i64 (by omega) (by omega)]
theorem bAnd_nat {a b : Nat} (ha : a < 1024) (hb : b < 1024) : bAnd .i64 (a : Int) (b : Int) = ((a &&& b : Nat) : Int) := by
  have h : a &&& b < 1024 := Nat.lt_of_le_of_lt Nat.and_le_left ha
  unfold bAnd
  show IntKind.i64.wrap (((BitVec.ofInt 64 (a : Int) &&& BitVec.ofInt 64 (b : Int)).toNat : Nat) : Int) = _
  rw [BitVec.toNat_and, bv_nat a ha, bv_nat b hb, wrap_i64 (by omega) (by omega)]
theorem bAndNot_nat {a : Nat} (ha : a < 1024) : bAndNot .i64 (a : Int) 2 = ((a &&& 1021 : Nat) : Int) := by
  have h : a &&& 1021 < 1024 := Nat.lt_of_le_of_lt Nat.and_le_left ha
  unfold bAndNot
  show IntKind.i64.wrap (((BitVec.ofInt 64 (a : Int) &&& ~~~ BitVec.ofInt 64 (2 : Int)).toNat : Nat) : Int) = _
  have e : (BitVec.ofInt 64 (a : Int) &&& ~~~ BitVec.ofInt 64 (2 : Int)).toNat = a &&& 1021 := by
    rw [BitVec.toNat_and, bv_nat a ha]
    apply Nat.eq_of_testBit_eq
    intro i
    rw [Nat.testBit_and, Nat.testBit_and]
    by_cases hi : i < 10
    · have : (~~~ BitVec.ofInt 64 (2 : Int)).toNat.testBit i = Nat.testBit 1021 i := by
        have hd : ∀ j < 10, (~~~ BitVec.ofInt 64 (2 : Int)).toNat.testBit j = Nat.testBit 1021 j := by decide
        exact hd i hi
      rw [this]
    · have : a.testBit i = false := Nat.testBit_lt_two_pow (Nat.lt_of_lt_of_le ha (Nat.pow_le_pow_right (n := 2) (by decide) (by omega : 10 ≤ i)))
      rw [this]; rfl
  rw [e, wrap_i64 (by omega) (by omega)]
theorem bitN_nat {t : Int} (h0 : 0 ≤ t) (h8 : t ≤ 8) : bitN t = ((2 ^ t.toNat : Nat) : Int) ∧ 2 ^ t.toNat < 1024 := by
  obtain ⟨n, rfl⟩ : ∃ n : Nat, t = n := ⟨t.toNat, by omega⟩
  have : n = 0 ∨ n = 1 ∨ n = 2 ∨ n = 3 ∨ n = 4 ∨ n = 5 ∨ n = 6 ∨ n = 7 ∨ n = 8 := by omega
  rcases this with rfl | rfl | rfl | rfl | rfl | rfl | rfl | rfl | rfl <;> exact ⟨by decide, by decide⟩
def bitsGo (l : List Signed) (n : Bs) (b : Nat) : Nat := (l.filter (named n)).foldl (fun b s => b ||| 2 ^ s.set.type.toNat) b
theorem bitsGo_eq : ∀ (l : List Signed) (n : Bs) (b : Nat), b < 1024 → (∀ s ∈ l, 0 ≤ s.set.type ∧ s.set.type ≤ 8) →
    (l.filter (named n)).foldl (fun b s => bOr .i64 b (bitN s.set.type)) (b : Int) = (bitsGo l n b : Int) ∧ bitsGo l n b < 1024 ∧ ∀ i, (bitsGo l n b).testBit i = (b.testBit i || l.any fun s => named n s && s.set.type.toNat == i)
  | [], n, b, hb, _ => ⟨rfl, hb, fun i => by simp [bitsGo]⟩
  | s :: t, n, b, hb, h => by
    obtain ⟨h0, h8⟩ := h s (List.mem_cons_self ..)
    have ht := fun x hx => h x (List.mem_cons_of_mem s hx)
    unfold bitsGo
    rw [List.filter_cons]
    cases hn : named n s with
    | true =>
      obtain ⟨e1, e2⟩ := bitN_nat h0 h8
      obtain ⟨o1, o2⟩ := bOr_nat hb e2
      obtain ⟨i1, i2, i3⟩ := bitsGo_eq t n (b ||| 2 ^ s.set.type.toNat) o2 ht
      unfold bitsGo at i1 i2 i3
      simp only [if_true, List.foldl_cons]
      rw [e1, o1]
      refine ⟨i1, i2, fun i => ?_⟩
      rw [i3 i, Nat.testBit_or, Nat.testBit_two_pow, List.any_cons, hn, Bool.true_and, Bool.or_assoc]
      rfl
    | false =>
      obtain ⟨i1, i2, i3⟩ := bitsGo_eq t n b hb ht
      unfold bitsGo at i1 i2 i3
      simp only [Bool.false_eq_true, if_false]
      refine ⟨i1, i2, fun i => ?_⟩
      rw [i3 i, List.any_cons, hn, Bool.false_and, Bool.false_or]
/-- The bits of a name, as a number. -/
theorem bitsN_nat {l : List Signed} (n : Bs) (h : ∀ s ∈ l, 0 ≤ s.set.type ∧ s.set.type ≤ 8) : ∃ b : Nat, bitsN l n = b ∧ b < 1024 ∧ ∀ i, b.testBit i = l.any fun s => named n s && s.set.type.toNat == i := by
  obtain ⟨i1, i2, i3⟩ := bitsGo_eq l n 0 (by decide) h
  exact ⟨bitsGo l n 0, i1, i2, fun i => by rw [i3 i]; simp⟩
end NP

/-
  Plain laws of the chain: what a next set says; the chain is valid.
-/
set_option linter.unusedSimpArgs false
set_option linter.unusedVariables false
set_option maxRecDepth 100000
namespace NP
open NQ Go
def hasT (l : List Signed) (n : Bs) (i : Nat) : Bool := l.any fun s => named n s && s.set.type.toNat == i
/-- The bits that a next set of a name has. -/
def ownT (y : Zone) (n : Bs) (i : Nat) : Bool := (i == 8) || (hasT y.sets n i && !((i == 1) && (!(n == y.apex) && hasT y.sets n 2)))
theorem bit1021 (i : Nat) (hi : i < 10) : Nat.testBit 1021 i = !(i == 1) := by
  have hd : ∀ j < 10, Nat.testBit 1021 j = !(j == 1) := by decide
  exact hd i hi
theorem and_four (x : Nat) : x &&& 4 = if x.testBit 2 = true then 4 else 0 := by
  apply Nat.eq_of_testBit_eq
  intro i
  rw [Nat.testBit_and, show (4 : Nat) = 2 ^ 2 from rfl, Nat.testBit_two_pow]
  have h4 : Nat.testBit 4 i = decide (2 = i) := by rw [show (4 : Nat) = 2 ^ 2 from rfl, Nat.testBit_two_pow]
  by_cases h : 2 = i
  · subst h
    cases hx : x.testBit 2
    · simp
    · rw [if_pos rfl, h4]; simp
  · cases hx : x.testBit 2
    · simp [h]
    · rw [if_pos rfl, h4]; simp [h]
theorem has9_nat {y : Zone} (h8 : ∀ s ∈ y.sets, 1 ≤ s.set.type ∧ s.set.type < 8) (n : Bs) : ∃ h : Nat, hasN9 y n = h ∧ h < 512 ∧ 256 ≤ h ∧ h % 2 = 0 ∧ ∀ i, h.testBit i = ownT y n i := by
  obtain ⟨b, hb, hb1, hb2⟩ := bitsN_nat (l := y.sets) n (fun s hs => by have := h8 s hs; omega)
  have hb2' : ∀ i, b.testBit i = hasT y.sets n i := hb2
  obtain ⟨o1, o2⟩ := bOr_nat hb1 (show 256 < 1024 by decide)
  have o1' : bOr .i64 (bitsN y.sets n) 256 = ((b ||| 256 : Nat) : Int) := by rw [hb]; exact o1
  have hbit : ∀ i, (b ||| 256).testBit i = ((i == 8) || hasT y.sets n i) := fun i => by
    rw [Nat.testBit_or, hb2', show (256 : Nat) = 2 ^ 8 from rfl, Nat.testBit_two_pow, Bool.or_comm]
    congr 1
    rw [Bool.eq_iff_iff]; simp; omega
  have ge9 : ∀ i, 9 ≤ i → hasT y.sets n i = false := fun i hi => by
    rw [← Bool.not_eq_true]
    intro h
    obtain ⟨s, hs, hp⟩ := List.any_eq_true.1 h
    have := h8 s hs
    simp at hp
    omega
  have no0 : hasT y.sets n 0 = false := by
    rw [← Bool.not_eq_true]
    intro h
    obtain ⟨s, hs, hp⟩ := List.any_eq_true.1 h
    have := h8 s hs
    simp at hp
    omega
  have a4 : (bAnd .i64 (bOr .i64 (bitsN y.sets n) 256) 4 != 0) = hasT y.sets n 2 := by
    have := bAnd_nat o2 (show 4 < 1024 by decide)
    rw [o1', show bAnd .i64 ((b ||| 256 : Nat) : Int) 4 = (((b ||| 256) &&& 4 : Nat) : Int) from this, and_four, hbit 2]
    cases hasT y.sets n 2 <;> rfl
  obtain ⟨h, hh, hbits⟩ : ∃ h : Nat, hasN9 y n = h ∧ ∀ i, h.testBit i = ownT y n i := by
    unfold hasN9
    rw [a4]
    cases hc : (!(n == y.apex) && hasT y.sets n 2) with
    | true =>
      rw [if_pos rfl]
      refine ⟨(b ||| 256) &&& 1021, by rw [o1']; exact bAndNot_nat o2, fun i => ?_⟩
      rw [Nat.testBit_and, hbit i]
      unfold ownT
      rw [hc]
      by_cases hi : i < 10
      · rw [bit1021 i hi]
        by_cases h1 : i = 1
        · subst h1; simp
        · have h1' : (i == 1) = false := by simpa using h1
          rw [h1']; simp
      · have hi8 : (i == 8) = false := by simp; omega
        rw [ge9 i (by omega), hi8]; rfl
    | false =>
      rw [if_neg (by decide)]
      refine ⟨b ||| 256, o1', fun i => ?_⟩
      rw [hbit i]
      unfold ownT
      rw [hc]; simp
  refine ⟨h, hh, ?_, ?_, ?_, hbits⟩
  · refine Nat.lt_pow_two_of_testBit (n := 9) h fun i hi => ?_
    rw [hbits i]
    unfold ownT
    have hi8 : (i == 8) = false := by simp; omega
    rw [hi8, ge9 i hi]; rfl
  · refine Nat.ge_two_pow_of_testBit (i := 8) ?_
    rw [hbits 8]; rfl
  · have : h.testBit 0 = false := by
      rw [hbits 0]; unfold ownT; rw [no0]; rfl
    rw [Nat.testBit_zero] at this
    simp at this
    omega
end NP

/-
  Plain laws of the chain: it is valid.
-/
set_option linter.unusedSimpArgs false
set_option linter.unusedVariables false
set_option maxRecDepth 100000
namespace NP
open NQ Go
theorem setB_first0 {s : RSet} (h : setB s = true) : ∃ d, s.data[0]? = some d ∧ validDatum (ruleOf s.type) d = true := by
  obtain ⟨d, hd⟩ : ∃ d, s.data[0]? = some d := by
    unfold setB at h; simp only [Bool.and_eq_true, Bool.not_eq_true', Bool.or_eq_false_iff, Bool.not_eq_false'] at h
    have := h.1.1.2
    simp [within] at this
    exact ⟨_, List.getElem?_eq_getElem (by omega)⟩
  refine ⟨d, hd, ?_⟩
  unfold setB at h
  rw [Bool.and_eq_true] at h
  have := List.all_eq_true.1 h.2 0 (List.mem_range.2 (List.getElem?_eq_some_iff.1 hd).1)
  rw [datAt_eq hd hd] at this
  unfold datBad at this
  simp at this
  exact this
theorem life_small : ∀ (l : List Signed) (b : Int), 0 ≤ b ∧ b ≤ 100000 → (∀ s ∈ l, setB s.set = true) →
    0 ≤ l.foldl (fun b s => if (s.set.type == 4) = true then ((s.set.data[0]?).getD zeroDt).m else b) b ∧ l.foldl (fun b s => if (s.set.type == 4) = true then ((s.set.data[0]?).getD zeroDt).m else b) b ≤ 100000
  | [], b, hb, _ => hb
  | s :: t, b, hb, h => by
    rw [List.foldl_cons]
    refine life_small t _ ?_ (fun x hx => h x (List.mem_cons_of_mem _ hx))
    split
    · rename_i h4
      obtain ⟨d, hd, hv⟩ := setB_first0 (h s (List.mem_cons_self ..))
      have ht : s.set.type = 4 := by simpa using h4
      rw [hd]
      rw [ht] at hv
      unfold validDatum at hv
      simp [ruleOf, within] at hv
      show 0 ≤ d.m ∧ d.m ≤ 100000
      omega
    · exact hb
theorem lifeN_small {l : List Signed} (h : ∀ s ∈ l, setB s.set = true) : 0 ≤ lifeN l ∧ lifeN l ≤ 100000 := life_small l 0 (by omega) h
theorem nextS_at {y : Zone} {ns : List Bs} {i : Nat} {n : Bs} (h : ns[i]? = some n) : ∃ to, to ∈ ns ∧ nextS y ns i = ⟨n, 8, lifeN y.sets, [⟨to, hasN9 y n, 0⟩]⟩ ∧ ns[(i + 1) % ns.length]? = some to := by
  have hl := (List.getElem?_eq_some_iff.1 h).1
  have hm : (i + 1) % ns.length < ns.length := Nat.mod_lt _ (by omega)
  refine ⟨ns[(i + 1) % ns.length], List.getElem_mem hm, ?_, List.getElem?_eq_getElem hm⟩
  unfold nextS
  rw [h, List.getElem?_eq_getElem hm]
  rfl
theorem next_setB {n to : Bs} {life h : Int} (hn : validN n = true) (ht : validN to = true) (hl : 0 ≤ life ∧ life ≤ 100000) (h0 : 2 ≤ h) (h1 : h ≤ 510) (h2 : h.tmod 2 = 0) : setB ⟨n, 8, life, [⟨to, h, 0⟩]⟩ = true := by
  have hr : ruleOf 8 = ⟨2, 2, 510, 0, 0, true, false, true⟩ := rfl
  unfold setB
  simp only [hn, hr]
  have hd : validDatum ⟨2, 2, 510, 0, 0, true, false, true⟩ ⟨to, h, 0⟩ = true := by
    unfold validDatum
    simp [within, validText, ht, h0, h1, h2]
  have hA : (List.range ([⟨to, h, 0⟩] : List Datum).length).all (datAt ⟨2, 2, 510, 0, 0, true, false, true⟩ [⟨to, h, 0⟩]) = true := by
    show (List.range 1).all _ = true
    simp [datAt, datBad, hd, List.range_succ]
  rw [hA]
  simp [within, hl.1, hl.2]
/-- The chain of a valid zone. -/
def chZ (z : Zone) : Zone := ⟨z.apex, wv (bareZ z).sets (nextsR (bareZ z) (namesOf (bareZ z)))⟩
theorem nexts_name (y : Zone) (ns : List Bs) : (nextsR y ns).map RSet.name = ns := by
  apply List.ext_getElem?
  intro i
  rw [List.getElem?_map]
  by_cases h : i < ns.length
  · rw [nexts_get h, List.getElem?_eq_getElem h]
    show some ((ns[i]?).getD []) = _
    rw [List.getElem?_eq_getElem h]; rfl
  · rw [List.getElem?_eq_none (by rw [nexts_len]; omega), List.getElem?_eq_none (by omega)]; rfl
/-- What the next sets of a valid zone without next sets are. -/
theorem nexts_mem {y : Zone} (hv : validZ y = true) (h8 : ∀ s ∈ y.sets, s.set.type < 8) {x : RSet} (hx : x ∈ nextsR y (namesOf y)) :
    ∃ n ∈ namesOf y, ∃ to ∈ namesOf y, x = ⟨n, 8, lifeN y.sets, [⟨to, hasN9 y n, 0⟩]⟩ ∧ setB x = true := by
  have ho := validZ_ordered hv
  obtain ⟨hA, hm⟩ := names_spec hv
  have hvn : ∀ n ∈ namesOf y, validN n = true := fun n hn => by
    obtain ⟨s, hs, rfl, _⟩ := (hm n).1 hn
    exact ho.name s hs
  obtain ⟨i, hi⟩ := List.getElem?_of_mem hx
  have hl : i < (namesOf y).length := by rw [← nexts_len y]; exact (List.getElem?_eq_some_iff.1 hi).1
  rw [nexts_get hl] at hi
  obtain ⟨n, hn⟩ : ∃ n, (namesOf y)[i]? = some n := ⟨_, List.getElem?_eq_getElem hl⟩
  obtain ⟨to, hto, he, _⟩ := nextS_at (y := y) hn
  have hnm := List.mem_of_getElem? hn
  obtain ⟨h, e1, e2, e3, e4, _⟩ := has9_nat (fun s hs => ⟨(setB_type (ho.set s hs)).1, h8 s hs⟩) n
  cases hi
  refine ⟨n, hnm, to, hto, he, ?_⟩
  rw [he, e1]
  exact next_setB (hvn n hnm) (hvn to hto) (lifeN_small ho.set) (by omega) (by omega) (by rw [Int.tmod_eq_emod_of_nonneg (by omega)]; omega)
end NP

/-
  Law 09's head and what it calls, on plain data: Denied whole, head.
-/
set_option linter.unusedSimpArgs false
set_option linter.unusedVariables false
set_option maxRecDepth 100000
namespace NP
open NQ Go
theorem next_first {apex : Bs} {s : RSet} (hb : setB s = true) (hn : nextB apex s = true) : ∃ d, s.data[0]? = some d ∧ validN d.text = true := by
  obtain ⟨d, hd, hv⟩ := setB_first0 hb
  refine ⟨d, hd, ?_⟩
  have ht : s.type = 8 := by
    unfold nextB at hn
    simp only [Bool.and_eq_true, beq_iff_eq] at hn
    exact hn.1.1
  have hr : ruleOf 8 = ⟨2, 2, 510, 0, 0, true, false, true⟩ := rfl
  rw [ht, hr] at hv
  unfold validDatum validText at hv
  simp at hv
  exact hv.2
def next9 (n to : Bs) (b : Int) : RSet := ⟨n, 8, 30, [⟨to, b, 0⟩]⟩
def n91 : RSet := next9 [120] [119, 46, 120] 276
def n92 : RSet := next9 [119, 46, 120] [97, 46, 121, 46, 120] 258
def n93 : RSet := next9 [97, 46, 121, 46, 120] [120] 288
def c9 : Zone := ⟨[120], [exS [120] 2 ⟨[97, 46, 110, 115], 0, 0⟩, exS [120] 4 ⟨[], 1, 30⟩, ⟨n91, []⟩, exS [119, 46, 120] 1 ⟨[], 7, 0⟩, ⟨n92, []⟩, exS [97, 46, 121, 46, 120] 5 ⟨[116], 0, 0⟩, ⟨n93, []⟩]⟩
def qYX : Quest := ⟨[121, 46, 120], 1⟩
def qXX : Quest := ⟨[120, 46, 120], 1⟩
def qWX : Quest := ⟨[119, 46, 120], 1⟩
end NP
namespace Go.Proofs.YtjecmfajdofamaaGreatDoor
open NQ Go NP Go.RowKit

theorem deniedX_fn (apex : Bs) (q : Quest) (l : List RSet) (hl : l.length ≤ 100000) :
    NQ.Fn cx 32 [.str apex, .agg (questD q), .slice 4 (l.map setD)] (.tuple [.d (.int .i64 (deniedR apex q l).1), .d (.int .i64 (deniedR apex q l).2)]) [] := by
  refine denied_fn apex q l hl fun hq hv => ?_
  obtain ⟨qn, ty⟩ := q
  have hq' : validN qn = true ∧ 1 ≤ ty ∧ ty ≤ 8 := by
    unfold questB at hq
    simp only [Bool.and_eq_true, decide_eq_true_eq] at hq
    exact ⟨hq.1.1, hq.1.2, hq.2⟩
  obtain ⟨t, rfl⟩ : ∃ t : Nat, ty = t := ⟨ty.toNat, by omega⟩
  refine below_fn apex qn t _ _ (Nat.le_trans (List.length_filter_le _ _) hl) (Nat.le_trans (List.length_filter_le _ _) (Nat.le_trans (List.length_filter_le _ _) (Nat.le_trans (List.length_filter_le _ _) hl))) (fun s hs => ?_) hq'.1 (fun s hs => ?_)
  · obtain ⟨h1, h2⟩ := List.mem_filter.1 hs
    obtain ⟨d, hd, _⟩ := next_first (hv s h1) h2
    exact ⟨d, hd⟩
  · obtain ⟨h0, _⟩ := List.mem_filter.1 hs
    obtain ⟨h0, _⟩ := List.mem_filter.1 h0
    obtain ⟨h1, h2⟩ := List.mem_filter.1 h0
    exact ⟨setB_valid (hv s h1), next_first (hv s h1) h2⟩
theorem hnext_fn (n to : Bs) (b : Int) : NQ.Fn cx 58 [.str n, .str to, .int .i64 b] (.agg ((setD (next9 n to b)).map .d)) [] := by
  refine fn_of_vc tyOk mixed Tryz.func58 (by kernel_rfl) rfl (Nat.le_of_ble_eq_true rfl) ?_; conv => whnf
  exact ret_data rfl rfl
theorem hq_fn (n : Bs) : NQ.Fn cx 60 [.str n] (.agg ((questD ⟨n, 1⟩).map .d)) [] := by
  refine fn_of_vc tyOk mixed Tryz.func60 (by kernel_rfl) rfl (Nat.le_of_ble_eq_true rfl) ?_; conv => whnf
  exact ret_data rfl rfl
noncomputable def cxH9 : Cx := { cx with bld := [30, 55, 149, 152] }
theorem tyH9 : TyOk cxH9 := tyOk
theorem mixedH9 : cxH9.P.follows .mixedOrders = true := mixed
set_option maxHeartbeats 2000000 in
theorem head9_fn : NQ.Fn cx 15 [] (.d (.bool true)) [] := by
  have e1 : chainR exZ = (c9, 0) := by kernel_rfl
  have d1 : deniedR [120] qYX [n92] = (5, 0) := by kernel_rfl
  have d2 : deniedR [120] qXX [n91, n92] = (6, 0) := by kernel_rfl
  have d3 : deniedR [120] qXX [n92] = (0, 0) := by kernel_rfl
  have e2 : covers9R [120] n93 [122, 46, 120] = (true, 0) := by kernel_rfl
  have p1 : proofR c9 qXX = ([⟨n92, []⟩, ⟨n91, []⟩], 0) := by kernel_rfl
  have p2 : proofR c9 qWX = ([], 6) := by kernel_rfl
  have fC := chain_fn exZ; rw [e1] at fC
  have f1 := deniedX_fn [120] qYX [n92] (by decide); rw [d1] at f1
  have f2 := deniedX_fn [120] qXX [n91, n92] (by decide); rw [d2] at f2
  have f3 := deniedX_fn [120] qXX [n92] (by decide); rw [d3] at f3
  have fV := coversX_fn [120] n93 [122, 46, 120]; rw [e2] at fV
  have g1 := proof9_fn c9 qXX; rw [p1] at g1
  have g2 := proof9_fn c9 qWX; rw [p2] at g2
  have fS := sets9_fn [⟨n92, []⟩, ⟨n91, []⟩] (by decide)
  have s1 := sameSets_fn [n91, n92, n93] [n91, n92, n93] (by decide) (by decide)
  rw [decide_eq_true rfl] at s1
  have s2 := sameSets_fn [n92, n91] [n92, n91] (by decide) (by decide)
  rw [decide_eq_true rfl] at s2
  clear e1 d1 d2 d3 e2 p1 p2
  show NQ.Fn cxH9 _ _ _ _
  refine fn_of_vcz (fun _ => []) tyH9 mixedH9 Tryz.func15 (by kernel_rfl) rfl (Nat.le_of_ble_eq_true rfl) ?_
  conv => whnf
  (refine ⟨_, _, example9_fn, ?_⟩; conv => whnf)
  (refine ⟨_, _, fC, ?_⟩; conv => whnf)
  repeat' (first
    | (refine ⟨_, _, hnext_fn _ _ _, ?_⟩; conv => whnf)
    | (refine ⟨_, _, hq_fn _, ?_⟩; conv => whnf)
    | (refine ⟨(by kernel_rfl : planOk _ _ = true), ?_⟩; conv => whnf)
    | (refine ⟨_, _, s1, ?_⟩; conv => whnf)
    | (refine ⟨_, _, f1, ?_⟩; conv => whnf)
    | (refine ⟨_, _, f2, ?_⟩; conv => whnf)
    | (refine ⟨_, _, f3, ?_⟩; conv => whnf)
    | (refine ⟨_, _, fV, ?_⟩; conv => whnf)
    | (refine ⟨_, _, g1, ?_⟩; conv => whnf)
    | (refine ⟨_, _, g2, ?_⟩; conv => whnf)
    | (refine ⟨_, _, fS, ?_⟩; conv => whnf)
    | (refine ⟨_, _, s2, ?_⟩; conv => whnf)
    | (refine ⟨by decide, by decide, by decide, ?_⟩; conv => whnf)
    | (refine ⟨by decide, setD _, rfl, ?_⟩; conv => whnf)
    | (refine ⟨by decide, signedD _, rfl, ?_⟩; conv => whnf)
    | exact ret_data rfl rfl
    | fail)
end Go.Proofs.YtjecmfajdofamaaGreatDoor

/-
  Plain laws of the chain: it is valid, and without next sets it is the zone without next sets.
-/
set_option linter.unusedSimpArgs false
set_option linter.unusedVariables false
set_option maxRecDepth 100000
namespace NP
open NQ Go
theorem bare_lt {z : Zone} (ho : Ordered z) : ∀ s ∈ (bareZ z).sets, s.set.type < 8 := fun s hs => by
  obtain ⟨h1, h2⟩ := bare_mem.1 hs
  have := setB_type (ho.set s h1)
  omega
theorem ch_spec {z : Zone} (hv : validZ z = true) : RP (chZ z).sets ∧ ∀ x, x ∈ (chZ z).sets ↔ x ∈ (bareZ z).sets ∨ ∃ y ∈ nextsR (bareZ z) (namesOf (bareZ z)), x = ⟨y, []⟩ := by
  have ho := validZ_ordered hv
  have hvb := bare_valid hv
  have hob := bare_ordered ho
  obtain ⟨hA, hm⟩ := names_spec hvb
  refine wv_spec (bareZ z).sets _ hob.rising.pw (bare_lt ho) ?_ (fun y hy => ?_)
  · have : Asc ((nextsR (bareZ z) (namesOf (bareZ z))).map RSet.name) := by rw [nexts_name]; exact hA
    exact List.pairwise_map.1 this
  · obtain ⟨n, hn, to, _, rfl, _⟩ := nexts_mem hvb (bare_lt ho) hy
    obtain ⟨s, hs, hsn, _⟩ := (hm n).1 hn
    exact ⟨rfl, s, hs, hsn⟩
theorem ch_bare {z : Zone} (hv : validZ z = true) : bareZ (chZ z) = bareZ z := by
  have ho := validZ_ordered hv
  obtain ⟨h1, h2⟩ := ch_spec hv
  have hs : (bareZ (chZ z)).sets = (bareZ z).sets := by
    refine RP.ext (h1.filter _) (ho.rising.pw.filter _) fun x => ?_
    show x ∈ (bareZ (chZ z)).sets ↔ x ∈ (bareZ z).sets
    rw [bare_mem, h2 x]
    constructor
    · rintro ⟨h | ⟨y, hy, rfl⟩, hne⟩
      · exact h
      · obtain ⟨n, _, to, _, rfl, _⟩ := nexts_mem (bare_valid hv) (bare_lt ho) hy
        exact absurd rfl hne
    · intro h
      exact ⟨.inl h, (bare_mem.1 h).2⟩
  show (⟨z.apex, (bareZ (chZ z)).sets⟩ : Zone) = ⟨z.apex, (bareZ z).sets⟩
  rw [hs]
theorem filter_two {α : Type} (p : α → Bool) : ∀ (l : List α), l.length = (l.filter p).length + (l.filter fun x => !p x).length
  | [] => rfl
  | x :: t => by
    have := filter_two p t
    rw [List.filter_cons, List.filter_cons]
    cases p x
    · simp; omega
    · simp; omega
theorem ch_len {z : Zone} (hv : validZ z = true) : (chZ z).sets.length = (bareZ z).sets.length + (namesOf (bareZ z)).length := by
  have ho := validZ_ordered hv
  obtain ⟨h1, h2⟩ := ch_spec hv
  have e1 : ((chZ z).sets.filter notNext) = (bareZ z).sets := congrArg Zone.sets (ch_bare hv)
  have hA := (names_spec (bare_valid hv)).1
  have hP : RP ((nextsR (bareZ z) (namesOf (bareZ z))).map fun y => (⟨y, []⟩ : Signed)) := by
    rw [RP, List.pairwise_map]
    have : Asc ((nextsR (bareZ z) (namesOf (bareZ z))).map RSet.name) := by rw [nexts_name]; exact hA
    exact List.Pairwise.imp (fun {a b} h => cpl_name h) (List.pairwise_map.1 this)
  have e2 : ((chZ z).sets.filter fun s => !notNext s) = (nextsR (bareZ z) (namesOf (bareZ z))).map fun y => (⟨y, []⟩ : Signed) := by
    refine RP.ext (h1.filter _) hP fun x => ?_
    rw [List.mem_filter, h2 x, List.mem_map]
    constructor
    · rintro ⟨h | ⟨y, hy, rfl⟩, hne⟩
      · have := (bare_mem.1 h).2
        simp [notNext] at hne
        exact absurd hne this
      · exact ⟨y, hy, rfl⟩
    · rintro ⟨y, hy, rfl⟩
      obtain ⟨n, _, to, _, rfl, _⟩ := nexts_mem (bare_valid hv) (bare_lt ho) hy
      exact ⟨.inr ⟨_, hy, rfl⟩, rfl⟩
  have := filter_two notNext (chZ z).sets
  rw [e1, e2, List.length_map, nexts_len] at this
  exact this
theorem ch_valid {z : Zone} (hv : validZ z = true) (hlen : (bareZ z).sets.length + (namesOf (bareZ z)).length ≤ 20000) : validZ (chZ z) = true := by
  have V := val_iff.1 hv
  have ho := V.ord
  have hvb := bare_valid hv
  obtain ⟨h1, h2⟩ := ch_spec hv
  obtain ⟨_, hm⟩ := names_spec hvb
  have hob := bare_ordered ho
  have inz : ∀ s, s ∈ (bareZ z).sets → s ∈ z.sets := fun s hs => (bare_mem.1 hs).1
  have hord : Ordered (chZ z) := by
    refine ⟨ho.apex, ho.tame, by rw [ch_len hv]; omega, fun s hs => ?_, fun s hs => ?_, RP.rising h1⟩
    · rcases (h2 s).1 hs with h | ⟨y, hy, rfl⟩
      · exact ho.set s (inz s h)
      · obtain ⟨n, _, to, _, _, hb⟩ := nexts_mem hvb (bare_lt ho) hy
        exact hb
    · rcases (h2 s).1 hs with h | ⟨y, hy, rfl⟩
      · exact ho.under s (inz s h)
      · obtain ⟨n, hn, to, _, rfl, _⟩ := nexts_mem hvb (bare_lt ho) hy
        obtain ⟨s0, hs0, rfl, _⟩ := (hm n).1 hn
        exact ho.under s0 (inz s0 hs0)
  have hcuts : ∀ c, c ∈ cutsL (chZ z).apex (chZ z).sets ↔ c ∈ cutsL z.apex z.sets := fun c => cutsL_congr (z := z) (y := chZ z) rfl (fun s hs => by
    rw [h2 s, bare_mem]
    constructor
    · rintro (h | ⟨y, hy, rfl⟩)
      · exact h.1
      · obtain ⟨n, _, to, _, rfl, _⟩ := nexts_mem hvb (bare_lt ho) hy
        exact absurd hs (by show (8 : Int) ≠ 2; decide)
    · intro h; exact .inl ⟨h, by rw [hs]; decide⟩) c
  have hsp : ∀ n, spec (highest (chZ z)) n = spec (highest z) n := fun n => spec_congr hord ho hcuts n
  have mk : ∀ t, t ≠ 8 → hasS z.sets ⟨z.apex, t⟩ = true → hasS (chZ z).sets ⟨z.apex, t⟩ = true := fun t ht h => by
    obtain ⟨s, hs, hp⟩ := has_iff.1 h
    have e : s.set.type = t := congrArg Prod.snd hp
    exact has_iff.2 ⟨s, (h2 s).2 (.inl (bare_mem.2 ⟨hs, by rw [e]; exact ht⟩)), hp⟩
  refine val_iff.2 ⟨hord, mk 4 (by decide) V.start, mk 2 (by decide) V.serv, fun s hs => ?_, fun s hs x hx h3 hn => ?_, fun s hs => ?_, fun s hs => ?_, fun s hs => ?_⟩
  · rcases (h2 s).1 hs with h | ⟨y, hy, rfl⟩
    · exact V.fit s (inz s h)
    · obtain ⟨n, _, to, _, rfl, _⟩ := nexts_mem hvb (bare_lt ho) hy
      rfl
  · rcases (h2 s).1 hs with h | ⟨y, hy, rfl⟩
    · rcases (h2 x).1 hx with hx | ⟨y, hy, rfl⟩
      · exact V.ali s (inz s h) x (inz x hx) h3 hn
      · obtain ⟨n, _, to, _, rfl, _⟩ := nexts_mem hvb (bare_lt ho) hy
        exact .inr rfl
    · obtain ⟨n, _, to, _, rfl, _⟩ := nexts_mem hvb (bare_lt ho) hy
      exact absurd h3 (by show (8 : Int) ≠ 3; decide)
  · rw [hsp]
    rcases (h2 s).1 hs with h | ⟨y, hy, rfl⟩
    · exact V.cut s (inz s h)
    · obtain ⟨n, hn, to, _, rfl, _⟩ := nexts_mem hvb (bare_lt ho) hy
      obtain ⟨s0, hs0, rfl, hsp0⟩ := (hm n).1 hn
      rw [bare_spec ho] at hsp0
      unfold cutBad
      rcases hsp0 with e | e
      · show (if (spec (highest z) s0.set.name == []) = true then _ else _) = _
        rw [e]; rfl
      · show (if (spec (highest z) s0.set.name == []) = true then ((8 : Int) == 6) else if (spec (highest z) s0.set.name == s0.set.name) = true then _ else _) = _
        rw [e]
        split
        · rfl
        · rw [if_pos (by simp)]; rfl
  · rw [hsp]
    rcases (h2 s).1 hs with h | ⟨y, hy, rfl⟩
    · exact V.sig s (inz s h)
    · unfold sgnBad; simp
  · rcases (h2 s).1 hs with h | ⟨y, hy, rfl⟩
    · exact V.form s (inz s h)
    · rfl
end NP

/-
  Plain laws of the chain: Chain gives it; what is found in it.
-/
set_option linter.unusedSimpArgs false
set_option linter.unusedVariables false
set_option maxRecDepth 100000
namespace NP
open NQ Go
theorem chain_eq {z : Zone} (hv : validZ z = true) (hlen : (bareZ z).sets.length + (namesOf (bareZ z)).length ≤ 20000) : chainR z = (chZ z, 0) := by
  have hvb := bare_valid hv
  have hN : namesR (bareZ z) = (namesOf (bareZ z), 0) := by rw [namesR, if_neg (by simp [hvb])]
  unfold chainR
  rw [if_neg (by simp [hv]), hN, if_neg (by simp), if_neg (by simp; omega), weave_wv, List.nil_append]
  rfl
theorem names_le (y : Zone) : (namesOf y).length ≤ y.sets.length := by
  have h := nam_length (y.sets.zip (behindOf y)) []
  have h2 : (namesOf y).length ≤ ((y.sets.zip (behindOf y))).length := by simpa [namesOf] using h
  rw [List.length_zip] at h2
  omega
theorem chain_small {z : Zone} (hv : validZ z = true) (hlen : z.sets.length ≤ 10000) : chainR z = (chZ z, 0) ∧ validZ (chZ z) = true := by
  have h1 := names_le (bareZ z)
  have h2 : (bareZ z).sets.length ≤ z.sets.length := List.length_filter_le _ _
  exact ⟨chain_eq hv (by omega), ch_valid hv (by omega)⟩
/-- The cuts of the chain are those of the zone. -/
theorem ch_cuts {z : Zone} (hv : validZ z = true) (c : Bs) : c ∈ cutsL (chZ z).apex (chZ z).sets ↔ c ∈ cutsL z.apex z.sets := by
  have ho := validZ_ordered hv
  obtain ⟨_, h2⟩ := ch_spec hv
  refine cutsL_congr (z := z) (y := chZ z) rfl (fun s hs => ?_) c
  rw [h2 s, bare_mem]
  constructor
  · rintro (h | ⟨y, hy, rfl⟩)
    · exact h.1
    · obtain ⟨n, _, to, _, rfl, _⟩ := nexts_mem (bare_valid hv) (bare_lt ho) hy
      exact absurd hs (by show (8 : Int) ≠ 2; decide)
  · intro h; exact .inl ⟨h, by rw [hs]; decide⟩
end NP

/-
  Plain laws of the chain: what each next set says, and what lies between its name and its next name.
-/
set_option linter.unusedSimpArgs false
set_option linter.unusedVariables false
set_option maxRecDepth 100000
namespace NP
open NQ Go
theorem under_total {s a b : Bs} (ha : underN s a = true) (hb : underN s b = true) : underN a b = true ∨ underN b a = true := by
  rw [underN_iff] at *
  rw [underN_iff]
  exact List.prefix_or_prefix_of_prefix hb ha
theorem cN_self (a : Bs) : compareN a a = 0 := (compareN_ord.zero a a).2 rfl
theorem cN_zero {a b : Bs} (h : compareN a b = 0) : a = b := (compareN_ord.zero a b).1 h
theorem cN_lt_of {a b : Bs} (h : compareN a b ≤ 0) (hne : a ≠ b) : compareN a b < 0 := by
  have : compareN a b ≠ 0 := fun e => hne (cN_zero e)
  omega
theorem cN_not {a b : Bs} (h : ¬ compareN a b ≤ 0) : compareN b a < 0 := by have := compareN_ord.anti a b; omega
theorem cN_antisymm {a b : Bs} (h : compareN a b ≤ 0) (k : compareN b a ≤ 0) : a = b := by have := compareN_ord.anti a b; exact cN_zero (by omega)
/-- The names with next sets in the chain of a zone. -/
def nsZ (z : Zone) : List Bs := namesOf (bareZ z)
/-- The next sets in the chain of a zone. -/
def nxZ (z : Zone) : List RSet := nextsR (bareZ z) (nsZ z)
theorem asc_lt {l : List Bs} (h : Asc l) {i j : Nat} {a b : Bs} (ha : l[i]? = some a) (hb : l[j]? = some b) (hij : i < j) : compareN a b < 0 := by
  obtain ⟨h1, rfl⟩ := List.getElem?_eq_some_iff.1 ha
  obtain ⟨h2, rfl⟩ := List.getElem?_eq_some_iff.1 hb
  exact List.pairwise_iff_getElem.1 h i j h1 h2 hij
theorem asc_le {l : List Bs} (h : Asc l) {i j : Nat} {a b : Bs} (ha : l[i]? = some a) (hb : l[j]? = some b) (hij : i ≤ j) : compareN a b ≤ 0 := by
  rcases Nat.lt_or_eq_of_le hij with k | rfl
  · have := asc_lt h ha hb k; omega
  · rw [ha] at hb; cases hb; rw [cN_self]; omega
theorem asc_inj {l : List Bs} (h : Asc l) {i j : Nat} {a : Bs} (ha : l[i]? = some a) (hb : l[j]? = some a) : i = j := by
  rcases Nat.lt_trichotomy i j with k | k | k
  · have := asc_lt h ha hb k; rw [cN_self] at this; omega
  · exact k
  · have := asc_lt h hb ha k; rw [cN_self] at this; omega
theorem ns_asc {z : Zone} (hv : validZ z = true) : Asc (nsZ z) := (names_spec (bare_valid hv)).1
theorem ns_first {z : Zone} (hv : validZ z = true) : (nsZ z)[0]? = some z.apex := by
  obtain ⟨t, ht⟩ := names_first (bare_valid hv)
  show (namesOf (bareZ z))[0]? = _
  rw [ht]; rfl
theorem apex_mem {z : Zone} (hv : validZ z = true) : z.apex ∈ nsZ z := List.mem_of_getElem? (ns_first hv)
theorem ns_iff {z : Zone} (hv : validZ z = true) (n : Bs) : n ∈ nsZ z ↔ ∃ s ∈ (bareZ z).sets, s.set.name = n ∧ (spec (highest z) n = [] ∨ spec (highest z) n = n) := by
  rw [nsZ, (names_spec (bare_valid hv)).2 n, bare_spec (validZ_ordered hv)]
theorem ns_set {z : Zone} (hv : validZ z = true) {n : Bs} (hn : n ∈ nsZ z) : validN n = true ∧ underN n z.apex = true := by
  have ho := validZ_ordered hv
  obtain ⟨s, hs, rfl, _⟩ := (ns_iff hv n).1 hn
  have := (bare_mem.1 hs).1
  exact ⟨ho.name s this, set_under ho this⟩
/-- What a next set of the chain says. -/
structure NxS (z : Zone) (y : RSet) (d : Datum) : Prop where
  type : y.type = 8
  name : y.name ∈ nsZ z
  data : y.data = [d]
  to : d.text ∈ nsZ z
  gap : ∀ m ∈ nsZ z, compareN m y.name ≤ 0 ∨ (d.text ≠ z.apex ∧ compareN d.text m ≤ 0)
  rise : d.text ≠ z.apex → compareN y.name d.text < 0
  num : ∃ h : Nat, d.n = h ∧ h < 512 ∧ ∀ i, h.testBit i = ownT (bareZ z) y.name i
  ok : setB y = true
theorem nx_at {z : Zone} (hv : validZ z = true) {i : Nat} {n : Bs} (hn : (nsZ z)[i]? = some n) : ∃ d, NxS z (nextS (bareZ z) (nsZ z) i) d ∧ (nextS (bareZ z) (nsZ z) i).name = n ∧ (nsZ z)[(i + 1) % (nsZ z).length]? = some d.text := by
  have ho := validZ_ordered hv
  have hl := (List.getElem?_eq_some_iff.1 hn).1
  obtain ⟨to, hto, he, hat⟩ := nextS_at (y := bareZ z) hn
  obtain ⟨h, e1, e2, _, _, e5⟩ := has9_nat (y := bareZ z) (fun s hs => ⟨(setB_type (ho.set s (bare_mem.1 hs).1)).1, bare_lt ho s hs⟩) n
  have hA := ns_asc hv
  have h0 := ns_first hv
  have hmem : nextS (bareZ z) (nsZ z) i ∈ nxZ z := List.mem_of_getElem? (nexts_get hl)
  obtain ⟨n', _, to', _, _, hok⟩ := nexts_mem (bare_valid hv) (bare_lt ho) hmem
  rw [he] at hok ⊢
  refine ⟨⟨to, hasN9 (bareZ z) n, 0⟩, ⟨rfl, List.mem_of_getElem? hn, rfl, hto, fun m hm => ?_, fun hne => ?_, ⟨h, e1, e2, e5⟩, hok⟩, rfl, hat⟩
  · obtain ⟨j, hj⟩ := List.getElem?_of_mem hm
    by_cases hji : j ≤ i
    · exact .inl (asc_le hA hj hn hji)
    · have hjl := (List.getElem?_eq_some_iff.1 hj).1
      rw [Nat.mod_eq_of_lt (by omega)] at hat
      refine .inr ⟨fun e => ?_, asc_le hA hat hj (by omega)⟩
      have e' : to = z.apex := e
      subst e'
      have := asc_inj hA hat h0
      omega
  · have hne' : to ≠ z.apex := hne
    by_cases hil : i + 1 < (nsZ z).length
    · rw [Nat.mod_eq_of_lt hil] at hat
      exact asc_lt hA hn hat (by omega)
    · have e : i + 1 = (nsZ z).length := by omega
      rw [e, Nat.mod_self, h0] at hat
      cases hat
      exact absurd rfl hne'
theorem nx_of {z : Zone} (hv : validZ z = true) {y : RSet} (hy : y ∈ nxZ z) : ∃ d, NxS z y d := by
  obtain ⟨i, hi⟩ := List.getElem?_of_mem hy
  have hl : i < (nsZ z).length := by have := (List.getElem?_eq_some_iff.1 hi).1; unfold nxZ at this; rwa [nexts_len] at this
  unfold nxZ at hi
  rw [nexts_get hl] at hi
  cases hi
  obtain ⟨d, h, _⟩ := nx_at hv (List.getElem?_eq_getElem hl)
  exact ⟨d, h⟩
theorem nx_for {z : Zone} (hv : validZ z = true) {n : Bs} (hn : n ∈ nsZ z) : ∃ y ∈ nxZ z, y.name = n := by
  have : n ∈ (nxZ z).map RSet.name := by unfold nxZ; rw [nexts_name]; exact hn
  obtain ⟨y, hy, e⟩ := List.mem_map.1 this
  exact ⟨y, hy, e⟩
theorem nx_rise {z : Zone} (hv : validZ z = true) : (nxZ z).Pairwise fun a b => compareN a.name b.name < 0 := by
  have : Asc ((nxZ z).map RSet.name) := by unfold nxZ; rw [nexts_name]; exact ns_asc hv
  exact List.pairwise_map.1 this
/-- The sets of the chain. -/
theorem ch_mem {z : Zone} (hv : validZ z = true) (x : Signed) : x ∈ (chZ z).sets ↔ x ∈ (bareZ z).sets ∨ ∃ y ∈ nxZ z, x = ⟨y, []⟩ := (ch_spec hv).2 x
/-- What a next set has: the types of the sets of its name; but not the glue of a cut. -/
theorem ch_has8 {z : Zone} (hv : validZ z = true) (n : Bs) : hasS (chZ z).sets ⟨n, 8⟩ = true ↔ n ∈ nsZ z := by
  rw [has_iff]
  constructor
  · rintro ⟨s, hs, hp⟩
    rcases (ch_mem hv s).1 hs with h | ⟨y, hy, rfl⟩
    · exact absurd (congrArg Prod.snd hp) (bare_mem.1 h).2
    · obtain ⟨d, hd⟩ := nx_of hv hy
      have : y.name = n := congrArg Prod.fst hp
      rw [← this]; exact hd.name
  · intro h
    obtain ⟨y, hy, e⟩ := nx_for hv h
    obtain ⟨d, hd⟩ := nx_of hv hy
    exact ⟨⟨y, []⟩, (ch_mem hv _).2 (.inr ⟨y, hy, rfl⟩), by show (y.name, y.type) = (n, 8); rw [e, hd.type]⟩
theorem ch_hasT {z : Zone} (hv : validZ z = true) (n : Bs) (t : Nat) (h8 : t < 8) : hasT (bareZ z).sets n t = hasS (chZ z).sets ⟨n, t⟩ := by
  have ho := validZ_ordered hv
  rw [Bool.eq_iff_iff, has_iff]
  unfold hasT
  rw [List.any_eq_true]
  constructor
  · rintro ⟨s, hs, hp⟩
    simp only [named, Bool.and_eq_true, beq_iff_eq] at hp
    have := setB_type (ho.set s (bare_mem.1 hs).1)
    exact ⟨s, (ch_mem hv s).2 (.inl hs), by show (s.set.name, s.set.type) = (n, (t : Int)); rw [hp.1]; congr 1; omega⟩
  · rintro ⟨s, hs, hp⟩
    have e1 : s.set.name = n := congrArg Prod.fst hp
    have e2 : s.set.type = t := congrArg Prod.snd hp
    rcases (ch_mem hv s).1 hs with h | ⟨y, hy, rfl⟩
    · exact ⟨s, h, by simp [named, e1, e2]⟩
    · obtain ⟨d, hd⟩ := nx_of hv hy
      have : y.type = t := e2
      rw [hd.type] at this; omega
theorem ch_own {z : Zone} (hv : validZ z = true) {n : Bs} (hn : n ∈ nsZ z) {t : Nat} (h1 : 1 ≤ t) (h8 : t ≤ 8) : ownT (bareZ z) n t = (hasS (chZ z).sets ⟨n, t⟩ && !((t == 1) && (!(n == z.apex) && hasS (chZ z).sets ⟨n, 2⟩))) := by
  unfold ownT
  by_cases h : t = 8
  · subst h
    rw [show hasS (chZ z).sets ⟨n, (8 : Nat)⟩ = true from (ch_has8 hv n).2 hn]
    rfl
  · rw [ch_hasT hv n t (by omega), show hasT (bareZ z).sets n 2 = hasS (chZ z).sets ⟨n, 2⟩ from ch_hasT hv n 2 (by omega)]
    rw [show (t == 8) = false by simpa using h, Bool.false_or]
    rfl
theorem and_pow (x t : Nat) : x &&& 2 ^ t = if x.testBit t = true then 2 ^ t else 0 := by
  apply Nat.eq_of_testBit_eq
  intro i
  rw [Nat.testBit_and, Nat.testBit_two_pow]
  by_cases h : t = i
  · subst h
    cases hx : x.testBit t
    · simp
    · rw [if_pos rfl, Nat.testBit_two_pow]; simp
  · cases hx : x.testBit t
    · simp [h]
    · rw [if_pos rfl, Nat.testBit_two_pow]; simp [h]
theorem hasB_bit {d : Datum} {h t : Nat} (hd : d.n = h) (hh : h < 512) (ht : t ≤ 8) : hasB d t = h.testBit t := by
  obtain ⟨b1, b2⟩ := bitN_nat (t := (t : Int)) (by omega) (by omega)
  have e : hasB d t = (bAnd .i64 d.n (bitN t) != 0) := rfl
  rw [e, hd, b1, bAnd_nat (by omega) b2]
  rw [show ((t : Int).toNat) = t by omega, and_pow]
  cases h.testBit t
  · rfl
  · have : 0 < 2 ^ t := Nat.pow_pos (by decide)
    rw [if_pos rfl, bne_iff_ne]
    omega
theorem NxS.bit {z : Zone} (hv : validZ z = true) {y : RSet} {d : Datum} (h : NxS z y d) {t : Nat} (h1 : 1 ≤ t) (h8 : t ≤ 8) : hasB d t = (hasS (chZ z).sets ⟨y.name, t⟩ && !((t == 1) && (!(y.name == z.apex) && hasS (chZ z).sets ⟨y.name, 2⟩))) := by
  obtain ⟨k, e1, e2, e3⟩ := h.num
  rw [hasB_bit e1 e2 h8, e3, ch_own hv h.name h1 h8]
theorem ch_ns {z : Zone} (hv : validZ z = true) (hlen : z.sets.length ≤ 10000) : namesOf (chZ z) = nsZ z := by
  have hc := (chain_small hv hlen).2
  have ho := validZ_ordered hv
  refine Asc.ext (names_spec hc).1 (ns_asc hv) fun n => ?_
  rw [(names_spec hc).2 n, ns_iff hv, spec_congr (validZ_ordered hc) ho (ch_cuts hv)]
  constructor
  · rintro ⟨s, hs, e, h⟩
    rcases (ch_mem hv s).1 hs with h1 | ⟨y, hy, rfl⟩
    · exact ⟨s, h1, e, h⟩
    · obtain ⟨d, hd⟩ := nx_of hv hy
      have e' : y.name = n := e
      have := hd.name
      rw [e'] at this
      exact (ns_iff hv n).1 this
  · rintro ⟨s, hs, e, h⟩
    exact ⟨s, (ch_mem hv s).2 (.inl hs), e, h⟩
end NP

/-
  DenialChain: the walk of its text.
-/
set_option linter.unusedSimpArgs false
set_option linter.unusedVariables false
set_option maxRecDepth 100000
namespace NP
open NQ Go
/-- The next set of a name of the chain is found. -/
theorem ch_find {z : Zone} (hv : validZ z = true) (hlen : z.sets.length ≤ 10000) {y : RSet} (hy : y ∈ nxZ z) : findR (chZ z) ⟨y.name, 8⟩ = (⟨y, []⟩, true, 0) := by
  have hc := (chain_small hv hlen).2
  obtain ⟨d, h⟩ := nx_of hv hy
  obtain ⟨s, hs, hp, hf⟩ := find_is (q := ⟨y.name, 8⟩) hc (by unfold questB; simp [(ns_set hv h.name).1]) ((ch_has8 hv y.name).2 h.name)
  have : s = ⟨y, []⟩ := RP.uniq (ch_spec hv).1 hs ((ch_mem hv _).2 (.inr ⟨y, hy, rfl⟩)) (hp.trans (by show (y.name, (8 : Int)) = (y.name, y.type); rw [h.type]))
  rw [hf, this]
theorem use9 {z : Zone} (h : (decide (z.sets.length ≤ 60) && fewB z && validZ z) = true) : validZ z = true ∧ z.sets.length ≤ 60 ∧ fewB z = true := by
  simp only [Bool.and_eq_true, decide_eq_true_eq] at h
  exact ⟨h.2, h.1.1, h.1.2⟩
theorem ch_small_sets {z : Zone} (hv : validZ z = true) (hlen : z.sets.length ≤ 60) : (chZ z).sets.length ≤ 200 ∧ (nsZ z).length ≤ 60 ∧ (bareZ z).sets.length ≤ 60 := by
  have h1 := names_le (bareZ z)
  have h2 : (bareZ z).sets.length ≤ z.sets.length := List.length_filter_le _ _
  have h3 := ch_len hv
  unfold nsZ
  omega
end NP
namespace Go.Proofs.YtjecmfajdofamaaGreatDoor
open NQ Go NP Go.RowKit

end Go.Proofs.YtjecmfajdofamaaGreatDoor

/-
  Plain: the closest name that exists; what kind an answer has; lists of names in order.
-/
set_option linter.unusedSimpArgs false
set_option linter.unusedVariables false
set_option maxRecDepth 100000
namespace NP
open NQ Go
theorem asc_pw {l : List Bs} (h : Asc l) : l.Pairwise fun a b => compareN a b ≤ 0 := List.Pairwise.imp (fun {a b} k => by omega) h
theorem isL_iff {l : List Bs} (hA : Asc l) (n : Bs) : isL l n = true ↔ n ∈ l := by
  unfold isL
  constructor
  · intro h
    cases hg : l[posL l n]? with
    | none => rw [hg] at h; cases h
    | some s =>
      rw [hg] at h
      have : s = n := by simpa using h
      subst this
      exact List.mem_of_getElem? hg
  · intro h
    obtain ⟨i, hi⟩ := List.getElem?_of_mem h
    have hle := (posL_iff (n := n) (asc_pw hA) hi).2 (by rw [cN_self]; omega)
    have hil := (List.getElem?_eq_some_iff.1 hi).1
    obtain ⟨s, hs⟩ : ∃ s, l[posL l n]? = some s := ⟨_, List.getElem?_eq_getElem (by omega)⟩
    rw [hs]
    have h1 := (posL_iff (n := n) (asc_pw hA) hs).1 (Nat.le_refl _)
    have h2 := asc_le hA hs hi hle
    have : s = n := cN_zero (by omega)
    simp [this]
theorem exL_iff {l : List Bs} (hA : Asc l) (hv : ∀ m ∈ l, validN m = true) {n : Bs} (hn : validN n = true) : exL l n = true ↔ ∃ m ∈ l, underN m n = true := by
  unfold exL
  constructor
  · intro h
    cases hg : l[posL l n]? with
    | none => rw [hg] at h; cases h
    | some s =>
      rw [hg] at h
      have hm := List.mem_of_getElem? hg
      exact ⟨s, hm, by rw [← underR_eq (hv s hm) hn]; exact h⟩
  · rintro ⟨m, hm, hu⟩
    obtain ⟨i, hi⟩ := List.getElem?_of_mem hm
    have hle := (posL_iff (n := n) (asc_pw hA) hi).2 (cN_flip (stretch1 hu))
    have hil := (List.getElem?_eq_some_iff.1 hi).1
    obtain ⟨s, hs⟩ : ∃ s, l[posL l n]? = some s := ⟨_, List.getElem?_eq_getElem (by omega)⟩
    rw [hs]
    have h1 := (posL_iff (n := n) (asc_pw hA) hs).1 (Nat.le_refl _)
    have h2 := asc_le hA hs hi hle
    show (underR s n).1 = true
    rw [underR_eq (hv s (List.mem_of_getElem? hs)) hn]
    exact stretch2 (under_self n) hu (cN_flip' h1) h2
/-- The deepest name above a name for which something holds. -/
theorem closeGo_is {apex r : Bs} {l : List Signed} : ∀ (f : Nat) (n : Bs), validN n = true → (labs n).length < f → underN n r = true → (r = apex ∨ exB l r = true) →
    (∀ b, underN n b = true → (b = apex ∨ exB l b = true) → underN r b = true) → closeGo apex l f n = r
  | 0, n, _, hf, _, _, _ => by omega
  | f + 1, n, hn, hf, hu, hr, hall => by
    rw [closeGo]
    by_cases e : n = r
    · subst e
      rcases hr with h | h
      · rw [if_pos h]
      · rw [if_pos h]; split <;> rfl
    · obtain ⟨_, k2, k3⟩ := under_up hn hu e
      rw [if_neg fun h => e (under_anti hu (hall n (under_self n) (.inl h))), if_neg fun h => e (under_anti hu (hall n (under_self n) (.inr h)))]
      exact closeGo_is f (parentN n) (parent_valid hn) (by omega) k2 hr fun b hb => hall b (under_trans (parent_under hn) hb)
theorem clL_is {apex r : Bs} {l : List Bs} : ∀ (f : Nat) (n : Bs), validN n = true → (labs n).length < f → underN n r = true → (r = apex ∨ exL l r = true) →
    (∀ b, underN n b = true → (b = apex ∨ exL l b = true) → underN r b = true) → clL apex l f n = r
  | 0, n, _, hf, _, _, _ => by omega
  | f + 1, n, hn, hf, hu, hr, hall => by
    rw [clL]
    by_cases e : n = r
    · subst e
      rw [if_neg]
      rcases hr with h | h
      · simp [h]
      · simp [h]
    · obtain ⟨_, k2, k3⟩ := under_up hn hu e
      rw [if_pos]
      · exact clL_is f (parentN n) (parent_valid hn) (by omega) k2 hr fun b hb => hall b (under_trans (parent_under hn) hb)
      · have h1 : n ≠ apex := fun h => e (under_anti hu (hall n (under_self n) (.inl h)))
        have h2 : exL l n = false := by
          rw [← Bool.not_eq_true]; exact fun h => e (under_anti hu (hall n (under_self n) (.inr h)))
        simp [h1, h2]
theorem under_root (a : Bs) : underN a [46] = true := by
  rw [underN_iff]
  show ([] : List Bs) <+: _
  exact List.nil_prefix
/-- A name that is under another one is longer, unless this is the root. -/
theorem under_len {a b : Bs} (h : underN a b = true) (hne : a ≠ b) (hb : b ≠ [46]) : b.length < a.length := by
  unfold underN at h
  obtain ⟨p, hp⟩ := List.isSuffixOf_iff_suffix.1 h
  have hb0 : labs b ≠ [] := fun e => hb (labs_nil.1 e)
  have hp0 : p ≠ [] := fun e => by subst e; exact hne (labs_inj hp.symm)
  have e1 : a = joinDot p ++ 46 :: joinDot (labs b) := by
    rw [← joinDot_append p (labs b) hp0 hb0, hp, ← nameOf_ne (by rw [← hp]; simp [hp0]), nameOf_labs]
  have e2 : joinDot (labs b) = b := by rw [← nameOf_ne hb0, nameOf_labs]
  rw [e2] at e1
  rw [e1]
  simp
  omega
theorem common_left {a : Bs} (b : Bs) (ha : validN a = true) : underN a (commonN a b) = true := by
  rw [underN_iff, back_common b ha]; exact lcp_left _ _
theorem common_most {a b : Bs} (c : Bs) (ha : validN a = true) : (underN a c && underN b c) = underN (commonN a b) c := by
  rw [Bool.eq_iff_iff, Bool.and_eq_true, underN_iff, underN_iff, underN_iff, back_common b ha]
  exact ⟨fun h => lcp_most _ _ _ h.1 h.2, fun h => ⟨h.trans (lcp_left _ _), h.trans (lcp_right _ _)⟩⟩
theorem common_right {a : Bs} (b : Bs) (ha : validN a = true) : underN b (commonN a b) = true := by
  have h := common_most (b := b) (commonN a b) ha
  rw [under_self, Bool.and_eq_true] at h
  exact h.2
theorem shown_up {n : Bs} {s : RSet} {d : Datum} (hn : validN n = true) : underN n (shown n s d) = true ∧ underN (shown n s d) (commonN n s.name) = true ∧ underN (shown n s d) (commonN n d.text) = true ∧ (shown n s d = commonN n s.name ∨ shown n s d = commonN n d.text) := by
  have a1 := common_left s.name hn
  have b1 := common_left d.text hn
  have av := common_valid s.name hn
  have bv := common_valid d.text hn
  have la : (commonN n s.name).length ≠ 0 := fun e => valid_ne_nil av (List.length_eq_zero_iff.1 e)
  have lb : (commonN n d.text).length ≠ 0 := fun e => valid_ne_nil bv (List.length_eq_zero_iff.1 e)
  unfold shown
  split
  · rename_i h
    refine ⟨b1, ?_, under_self _, .inr rfl⟩
    simp only [Bool.or_eq_true, decide_eq_true_eq, beq_iff_eq] at h
    rcases h with h | h
    · rcases under_total a1 b1 with k | k
      · by_cases e : commonN n s.name = commonN n d.text
        · rw [e]; exact under_self _
        · by_cases e2 : commonN n d.text = [46]
          · have h' : 1 > (commonN n s.name).length := by rw [e2] at h; exact h
            omega
          · have := under_len k e e2; omega
      · exact k
    · rw [h]; exact under_root _
  · rename_i h
    refine ⟨a1, under_self _, ?_, .inl rfl⟩
    simp only [Bool.or_eq_true, decide_eq_true_eq, beq_iff_eq, not_or] at h
    rcases under_total a1 b1 with k | k
    · exact k
    · by_cases e : commonN n d.text = commonN n s.name
      · rw [e]; exact under_self _
      · have := under_len k e h.2; omega
/-- What kind an answer has, for a name that is not behind a cut. -/
def kindS (y : Zone) (q : Quest) (w : Bs) : Int :=
  if hasS y.sets ⟨w, q.type⟩ = true then 2 else if (hasS y.sets ⟨w, 3⟩ && q.type != 8) = true then 3 else if (!(w == []) && existsR y w) = true then 5 else 6
def kindW (y : Zone) (q : Quest) : Int :=
  if hasS y.sets q = true then 1 else if (hasS y.sets ⟨q.name, 3⟩ && q.type != 8) = true then 3 else if existsR y q.name = true then 5 else kindS y q (starR (closeB y.apex y.sets q.name))
theorem at_has (y : Zone) (q : Quest) : decide (atI y.sets q ≥ 0) = hasS y.sets q := data_has y q
theorem questB_name {q : Quest} (h : questB q = true) : validN q.name = true ∧ 1 ≤ q.type ∧ q.type ≤ 8 := by
  unfold questB at h
  simp only [Bool.and_eq_true, decide_eq_true_eq] at h
  exact ⟨h.1.1, h.1.2, h.2⟩
theorem kind_is {y : Zone} {q : Quest} (hv : validZ y = true) (hq : questB q = true) (hu : underN q.name y.apex = true) :
    (ansR y q).2 = 0 ∧ (ansR y q).1.kind = if referB (vw y q) = true then 4 else kindW y q := by
  have ho := validZ_ordered hv
  have hn := (questB_name hq).1
  rw [ans_val hv hq hu]
  refine ⟨rfl, ?_⟩
  show (ansV (vw y q)).kind = _
  rw [ansV_kind]
  split
  · rfl
  have e1 : dataB (vw y q) = hasS y.sets q := data_has y q
  have e2 : aliasB (vw y q) = (hasS y.sets ⟨q.name, 3⟩ && q.type != 8) := by rw [← at_has]; rfl
  have e3 : exB (vw y q).sets (vw y q).q.name = existsR y q.name := exB_exists ho hn
  unfold kindW
  rw [e1, e2, e3]
  by_cases hx : existsR y q.name = true
  · rw [if_pos hx, if_pos hx]
  · rw [if_neg hx, if_neg hx]
    have hx' : exB (vw y q).sets (vw y q).q.name = false := by rw [e3]; simpa using hx
    have ew : (noDataV (vw y q)).wild = starR (closeB y.apex y.sets q.name) := wild_star hx'
    have eq : (noDataV (vw y q)).q = q := by unfold noDataV; split <;> rfl
    have e4 : wildB (noDataV (vw y q)) = hasS y.sets ⟨starR (closeB y.apex y.sets q.name), q.type⟩ := by
      unfold wildB; rw [noData_sets, ew, eq]; exact at_has y _
    have e5 : wildAliasB (noDataV (vw y q)) = (hasS y.sets ⟨starR (closeB y.apex y.sets q.name), 3⟩ && q.type != 8) := by
      unfold wildAliasB; rw [noData_sets, ew, eq, show (vw y q).sets = y.sets from rfl, at_has]
    have e6 : wildNoB (noDataV (vw y q)) = (!(starR (closeB y.apex y.sets q.name) == []) && existsR y (starR (closeB y.apex y.sets q.name))) := by
      unfold wildNoB; rw [noData_sets, ew]
      cases hw : (starR (closeB y.apex y.sets q.name) == []) with
      | true => rfl
      | false =>
        have hne : starR (closeB y.apex y.sets q.name) ≠ [] := by simpa using hw
        rw [show (vw y q).sets = y.sets from rfl, exB_exists ho ((star_ok' _).resolve_left hne)]
    rw [e4, e5, e6]
    rfl
/-- The wildcard of a name. -/
theorem wildOf_star (n : Bs) : (wildOf n).1 = starR n := rfl
theorem wildOf_no {n : Bs} (h : (wildOf n).2 = false) : starR n = [] := star_err n (by unfold wildOf at h; simpa using h)
theorem wildOf_yes {n : Bs} (h : (wildOf n).2 = true) : validN (starR n) = true ∧ labs (starR n) = [42] :: labs n := by
  unfold wildOf at h
  have hj0 : (joinR ([42] :: labs n)).2 = 0 := by simpa using h
  unfold starR
  unfold joinR at hj0 ⊢
  split
  · rename_i k; exact join_ok k
  · rename_i k; rw [if_neg k] at hj0; simp at hj0
theorem star_under {n : Bs} (h : (wildOf n).2 = true) : underN (starR n) n = true ∧ starR n ≠ n := by
  obtain ⟨_, h2⟩ := wildOf_yes h
  constructor
  · unfold underN
    rw [h2]
    exact List.isSuffixOf_iff_suffix.2 (List.suffix_cons _ _)
  · intro e
    rw [e] at h2
    have := congrArg List.length h2
    simp at this
/-- Nothing but itself is under a wildcard. -/
theorem star_alone {n m : Bs} (h : (wildOf n).2 = true) (hm : validN m = true) (hu : underN m (starR n) = true) : m = starR n := by
  obtain ⟨h1, h2⟩ := wildOf_yes h
  unfold underN at hu
  rw [h2] at hu
  obtain ⟨p, hp⟩ := List.isSuffixOf_iff_suffix.1 hu
  cases p with
  | nil => exact labs_inj (by rw [h2, ← hp]; rfl)
  | cons x t =>
    have hok := valid_okL hm
    rw [← hp] at hok
    exfalso
    have : isLabel [42] = true := by
      unfold okL at hok
      simp only [List.cons_append, Bool.and_eq_true] at hok
      have h3 := hok.2
      have := List.all_eq_true.1 h3.2 [42] (by simp)
      exact this
    rw [isLabel_star] at this; cases this
end NP

/-
  Plain: what the next sets of a chain deny is so.
-/
set_option linter.unusedSimpArgs false
set_option linter.unusedVariables false
set_option maxRecDepth 100000
namespace NP
open NQ Go
/-- A name that is behind no cut. -/
def Opn (z : Zone) (n : Bs) : Prop := ∀ k ∈ cutsL z.apex z.sets, underN n k = false
theorem Opn.up {z : Zone} {n b : Bs} (h : Opn z n) (hu : underN n b = true) : Opn z b := fun k hk => by
  rw [← Bool.not_eq_true]
  intro e
  have := h k hk
  rw [under_trans hu e] at this; cases this
theorem ns_cut {z : Zone} (hv : validZ z = true) {n k : Bs} (hn : n ∈ nsZ z) (hk : k ∈ cutsL z.apex z.sets) (hu : underN n k = true) : n = k := by
  have e := val_spec hv hk hu
  obtain ⟨s, _, _, h⟩ := (ns_iff hv n).1 hn
  rw [e] at h
  rcases h with h | h
  · exact absurd h (cut_ne (validZ_ordered hv) hk).1
  · exact h.symm
theorem cut_ns {z : Zone} (hv : validZ z = true) {k : Bs} (hk : k ∈ cutsL z.apex z.sets) : k ∈ nsZ z := by
  obtain ⟨s, hs, h1, h2⟩ := (cutsL_iff _ _ _).1 hk
  have ht : s.set.type = 2 := by simp [isCutAt] at h1; exact h1.1
  exact (ns_iff hv k).2 ⟨s, bare_mem.2 ⟨hs, by rw [ht]; decide⟩, h2, .inr (val_spec hv hk (under_self k))⟩
theorem ch_behind {z : Zone} (hv : validZ z = true) {s : Signed} (hs : s ∈ (chZ z).sets) : s.set.name ∈ nsZ z ∨ ∃ k ∈ cutsL z.apex z.sets, underN s.set.name k = true ∧ s.set.name ≠ k := by
  have ho := validZ_ordered hv
  rcases (ch_mem hv s).1 hs with h | ⟨y, hy, rfl⟩
  · rcases spec_cases ho s.set.name with ⟨h1, _⟩ | ⟨h1, h2, _⟩
    · exact .inl ((ns_iff hv _).2 ⟨s, h, rfl, .inl h1⟩)
    · by_cases e : s.set.name = spec (highest z) s.set.name
      · exact .inl ((ns_iff hv _).2 ⟨s, h, rfl, .inr e.symm⟩)
      · exact .inr ⟨_, h1, h2, e⟩
  · obtain ⟨d, hd⟩ := nx_of hv hy
    exact .inl hd.name
theorem ns_exists {z : Zone} (hv : validZ z = true) {m n : Bs} (hm : m ∈ nsZ z) (hu : underN m n = true) : existsR (chZ z) n = true := by
  obtain ⟨s, hs, hp⟩ := has_iff.1 ((ch_has8 hv m).2 hm)
  have e : s.set.name = m := congrArg Prod.fst hp
  exact exists_name hs (by rw [e]; exact hu)
theorem exists_ns {z : Zone} (hv : validZ z = true) {n : Bs} (ho : Opn z n) : existsR (chZ z) n = true ↔ ∃ m ∈ nsZ z, underN m n = true := by
  constructor
  · intro h
    obtain ⟨s, hs, hu⟩ := List.any_eq_true.1 h
    rcases ch_behind hv hs with h | ⟨k, hk, h1, _⟩
    · exact ⟨_, h, hu⟩
    · rcases under_total hu h1 with k1 | k1
      · have := ho k hk; rw [k1] at this; cases this
      · exact ⟨k, cut_ns hv hk, k1⟩
  · rintro ⟨m, hm, hu⟩; exact ns_exists hv hm hu
theorem open_has {z : Zone} (hv : validZ z = true) {n : Bs} (ho : Opn z n) (hn : n ∉ nsZ z) (t : Int) : hasS (chZ z).sets ⟨n, t⟩ = false := by
  rw [← Bool.not_eq_true]
  intro h
  obtain ⟨s, hs, hp⟩ := has_iff.1 h
  have e : s.set.name = n := congrArg Prod.fst hp
  rcases ch_behind hv hs with h | ⟨k, hk, h1, _⟩
  · exact hn (e ▸ h)
  · have := ho k hk; rw [e] at h1; rw [h1] at this; cases this
theorem ch_cutOf {z : Zone} (hv : validZ z = true) (hlen : z.sets.length ≤ 10000) (n : Bs) : cutOfR (chZ z) n = spec (highest z) n := by
  have hc := (chain_small hv hlen).2
  rw [cutOf_eq hc, spec_congr (validZ_ordered hc) (validZ_ordered hv) (ch_cuts hv)]
theorem opn_spec {z : Zone} (hv : validZ z = true) (n : Bs) : spec (highest z) n = [] ↔ Opn z n := by
  have ho := validZ_ordered hv
  rcases spec_cases ho n with ⟨h1, h2⟩ | ⟨h1, h2, _⟩
  · exact ⟨fun _ => h2, fun _ => h1⟩
  · constructor
    · intro e; exact absurd e (cut_ne ho h1).1
    · intro h; have := h _ h1; rw [h2] at this; cases this
theorem opn_refer {z : Zone} (hv : validZ z = true) (hlen : z.sets.length ≤ 10000) {q : Quest} (ho : Opn z q.name) : referB (vw (chZ z) q) = false := by
  rw [vw_refer, ch_cutOf hv hlen, (opn_spec hv _).2 ho]; rfl
/-- A next set is that of a cut. -/
theorem has4 {y : Zone} (hv : validZ y = true) (n : Bs) : hasS y.sets ⟨n, 4⟩ = (n == y.apex) := by
  have V := val_iff.1 hv
  rw [Bool.eq_iff_iff, has_iff]
  constructor
  · rintro ⟨s, hs, hp⟩
    have e1 : s.set.name = n := congrArg Prod.fst hp
    have e2 : s.set.type = 4 := congrArg Prod.snd hp
    have := V.fit s hs
    rw [e1, e2] at this
    exact this
  · intro h
    have : n = y.apex := by simpa using h
    subst this
    exact has_iff.1 V.start
theorem NxS.cut {z : Zone} (hv : validZ z = true) (hlen : z.sets.length ≤ 10000) {y : RSet} {d : Datum} (h : NxS z y d) : ofCutB d = true ↔ y.name ∈ cutsL z.apex z.sets := by
  have hc := (chain_small hv hlen).2
  show (hasB d ((2 : Nat) : Int) && !hasB d ((4 : Nat) : Int)) = true ↔ _
  rw [h.bit hv (t := 2) (by decide) (by decide), h.bit hv (t := 4) (by decide) (by decide)]
  rw [show hasS (chZ z).sets ⟨y.name, ((4 : Nat) : Int)⟩ = (y.name == z.apex) from has4 hc y.name]
  by_cases e : y.name = z.apex
  · constructor
    · intro k; simp [e] at k
    · intro k; exact absurd e (cut_ne (validZ_ordered hv) k).2.1
  · have := has_cut (z := chZ z) (n := y.name) e
    rw [ch_cuts hv] at this
    rw [← this, show hasS (chZ z).sets ⟨y.name, ((2 : Nat) : Int)⟩ = hasS (chZ z).sets ⟨y.name, 2⟩ from rfl]
    have e' : (y.name == z.apex) = false := by simpa using e
    rw [e']
    simp
/-- A next set covers a name. -/
structure Cov (z : Zone) (y : RSet) (d : Datum) (n : Bs) : Prop where
  under : underN n z.apex = true
  lt : compareN y.name n < 0
  nxt : d.text = z.apex ∨ compareN n d.text < 0
theorem compareR_eq {a b : Bs} (ha : validN a = true) (hb : validN b = true) : (compareR a b).1 = compareN a b := by unfold compareR; rw [if_pos ⟨ha, hb⟩]
theorem cov_iff {z : Zone} (hv : validZ z = true) {y : RSet} {d : Datum} (h : NxS z y d) {n : Bs} (hn : validN n = true) : coversB z.apex y d n = true ↔ Cov z y d n := by
  have v1 := (ns_set hv h.name).1
  have v2 := (ns_set hv h.to).1
  unfold coversB
  rw [underR_eq hn (validZ_ordered hv).apex, compareR_eq v1 hn, compareR_eq hn v2]
  simp only [Bool.and_eq_true, Bool.or_eq_true, decide_eq_true_eq, beq_iff_eq]
  exact ⟨fun k => ⟨k.1.1, k.1.2, k.2⟩, fun k => ⟨⟨k.under, k.lt⟩, k.nxt⟩⟩
theorem Cov.not {z : Zone} {y : RSet} {d : Datum} (h : NxS z y d) {n : Bs} (c : Cov z y d n) : n ∉ nsZ z := fun hn => by
  have h1 := c.lt
  have h2 := c.nxt
  have h3 := compareN_ord.anti y.name n
  have h4 := compareN_ord.anti d.text n
  rcases h.gap n hn with k | ⟨k1, k2⟩
  · omega
  · rcases h2 with h2 | h2
    · exact k1 h2
    · omega
theorem Cov.le {z : Zone} {y : RSet} {d : Datum} (h : NxS z y d) {n : Bs} (c : Cov z y d n) {m : Bs} (hm : m ∈ nsZ z) (hle : compareN m n ≤ 0) : compareN m y.name ≤ 0 := by
  rcases h.gap m hm with k | ⟨k1, k2⟩
  · exact k
  · rcases c.nxt with h2 | h2
    · exact absurd h2 k1
    · have := compareN_ord.le_trans k2 hle
      have := compareN_ord.anti d.text n
      omega
theorem Cov.ge {z : Zone} {y : RSet} {d : Datum} (h : NxS z y d) {n : Bs} (c : Cov z y d n) {m : Bs} (hm : m ∈ nsZ z) (hge : compareN n m ≤ 0) : compareN n d.text < 0 ∧ compareN d.text m ≤ 0 := by
  rcases h.gap m hm with k | ⟨k1, k2⟩
  · have h1 := compareN_ord.le_trans hge k
    have := compareN_ord.anti y.name n
    have := c.lt
    omega
  · rcases c.nxt with h2 | h2
    · exact absurd h2 k1
    · exact ⟨h2, k2⟩
theorem Cov.uniq {z : Zone} {y y' : RSet} {d d' : Datum} (h : NxS z y d) (h' : NxS z y' d') {n : Bs} (c : Cov z y d n) (c' : Cov z y' d' n) : y.name = y'.name :=
  cN_antisymm (c'.le h' h.name (by have := c.lt; omega)) (c.le h h'.name (by have := c'.lt; omega))
theorem asc_floor {n : Bs} : ∀ (l : List Bs), Asc l → (∃ a ∈ l, compareN a n ≤ 0) → ∃ m ∈ l, compareN m n ≤ 0 ∧ ∀ k ∈ l, compareN k n ≤ 0 → compareN k m ≤ 0
  | [], _, ⟨a, ha, _⟩ => by cases ha
  | x :: t, hA, ⟨a, ha, hle⟩ => by
    obtain ⟨h1, h2⟩ := List.pairwise_cons.1 hA
    by_cases h : ∃ b ∈ t, compareN b n ≤ 0
    · obtain ⟨m, hm, k1, k2⟩ := asc_floor t h2 h
      refine ⟨m, List.mem_cons_of_mem _ hm, k1, fun k hk hkn => ?_⟩
      rcases List.mem_cons.1 hk with rfl | hk
      · have := h1 m hm; omega
      · exact k2 k hk hkn
    · rcases List.mem_cons.1 ha with rfl | hat
      · refine ⟨a, List.mem_cons_self .., hle, fun k hk hkn => ?_⟩
        rcases List.mem_cons.1 hk with rfl | hk
        · rw [cN_self]; omega
        · exact absurd ⟨k, hk, hkn⟩ h
      · exact absurd ⟨a, hat, hle⟩ h
/-- Each name that has no next set is covered. -/
theorem cov_exists {z : Zone} (hv : validZ z = true) {n : Bs} (hu : underN n z.apex = true) (hn : n ∉ nsZ z) : ∃ y ∈ nxZ z, ∃ d, NxS z y d ∧ Cov z y d n := by
  obtain ⟨m, hm, h1, h2⟩ := asc_floor (n := n) (nsZ z) (ns_asc hv) ⟨z.apex, apex_mem hv, stretch1 hu⟩
  obtain ⟨y, hy, e⟩ := nx_for hv hm
  obtain ⟨d, hd⟩ := nx_of hv hy
  refine ⟨y, hy, d, hd, hu, by rw [e]; exact cN_lt_of h1 fun k => hn (k ▸ hm), ?_⟩
  by_cases ht : d.text = z.apex
  · exact .inl ht
  · refine .inr ?_
    have h3 := hd.rise ht
    rw [e] at h3
    by_cases h4 : compareN d.text n ≤ 0
    · have := h2 _ hd.to h4
      have := compareN_ord.anti m d.text
      omega
    · exact cN_not h4
theorem speaks_iff {z : Zone} (hv : validZ z = true) (hlen : z.sets.length ≤ 10000) {y : RSet} {d : Datum} (h : NxS z y d) {n : Bs} (hn : validN n = true) :
    speaksB y d n = true ↔ (y.name ∈ cutsL z.apex z.sets → n = y.name ∨ underN n y.name = false) := by
  unfold speaksB
  rw [underR_eq hn (ns_set hv h.name).1]
  have := h.cut hv hlen
  cases hc : ofCutB d with
  | true =>
    rw [hc] at this
    simp only [Bool.not_true, Bool.false_or, Bool.or_eq_true, beq_iff_eq, Bool.not_eq_true']
    exact ⟨fun k _ => k, fun k => k (this.1 rfl)⟩
  | false =>
    rw [hc] at this
    simp only [Bool.not_false, Bool.true_or, true_iff]
    intro k
    have := this.2 k
    cases this
theorem speak_open {z : Zone} (hv : validZ z = true) (hlen : z.sets.length ≤ 10000) {y : RSet} {d : Datum} (h : NxS z y d) {n : Bs} (hn : validN n = true) (c : Cov z y d n) (hs : speaksB y d n = true) : Opn z n := fun k hk => by
  rw [← Bool.not_eq_true]
  intro hu
  have hkn := cut_ns hv hk
  have h1 := c.le h hkn (stretch1 hu)
  have h2 := stretch2 (under_self k) hu h1 (by have := c.lt; omega)
  have e := ns_cut hv h.name hk h2
  rcases (speaks_iff hv hlen h hn).1 hs (e ▸ hk) with k1 | k1
  · have := c.lt; rw [k1, cN_self] at this; omega
  · rw [e, hu] at k1; cases k1
theorem open_speak {z : Zone} (hv : validZ z = true) (hlen : z.sets.length ≤ 10000) {y : RSet} {d : Datum} (h : NxS z y d) {n : Bs} (hn : validN n = true) (ho : Opn z n) : speaksB y d n = true :=
  (speaks_iff hv hlen h hn).2 fun k => .inr (ho _ k)
theorem kind5_of {y : Zone} {q : Quest} (h1 : hasS y.sets q = false) (h3 : hasS y.sets ⟨q.name, 3⟩ = false) (hx : existsR y q.name = true) : kindW y q = 5 := by
  unfold kindW
  rw [if_neg (by simp [h1]), if_neg (by simp [h3]), if_pos hx]
theorem name_valid {z : Zone} (hv : validZ z = true) {s : Signed} (hs : s ∈ z.sets) : validN s.set.name = true := (validZ_ordered hv).name s hs
/-- Silent about a type, and a cut's next set about those above alone: there is no such set. -/
theorem silent_none {z : Zone} (hv : validZ z = true) (hlen : z.sets.length ≤ 10000) {y : RSet} {d : Datum} (h : NxS z y d) {t : Nat} (h1 : 1 ≤ t) (h8 : t ≤ 8) (hs : silentB d t = true) (hc : aboveT t = true ∨ ofCutB d = false) :
    hasS (chZ z).sets ⟨y.name, t⟩ = false ∧ hasS (chZ z).sets ⟨y.name, 3⟩ = false := by
  unfold silentB at hs
  simp only [Bool.and_eq_true, Bool.not_eq_true'] at hs
  obtain ⟨s1, s3⟩ := hs
  rw [h.bit hv h1 h8] at s1
  have s3' : hasB d ((3 : Nat) : Int) = false := s3
  rw [h.bit hv (by decide) (by decide)] at s3'
  refine ⟨?_, by simpa using s3'⟩
  by_cases e : t = 1
  · subst e
    have hcut : ofCutB d = false := by
      rcases hc with hc | hc
      · exact absurd hc (by decide)
      · exact hc
    have hno : y.name ∉ cutsL z.apex z.sets := fun k => by have := (h.cut hv hlen).2 k; rw [hcut] at this; cases this
    have : (!(y.name == z.apex) && hasS (chZ z).sets ⟨y.name, 2⟩) = false := by
      by_cases ea : y.name = z.apex
      · simp [ea]
      · have h2 := has_cut (z := chZ z) (n := y.name) ea
        rw [ch_cuts hv] at h2
        have : hasS (chZ z).sets ⟨y.name, 2⟩ = false := by rw [← Bool.not_eq_true]; exact fun k => hno (h2.1 k)
        rw [this, Bool.and_false]
    rw [this] at s1
    simpa using s1
  · have : (t == 1) = false := by simpa using e
    rw [this] at s1
    simpa using s1
/-- The first rule of Denied: there is no such data. -/
theorem hit_kind {z : Zone} (hv : validZ z = true) (hlen : z.sets.length ≤ 10000) {q : Quest} (hq : questB q = true) {y : RSet} {d : Datum} (h : NxS z y d) (hsp : speaksB y d q.name = true)
    (hh : (y.name = q.name ∧ silentB d q.type = true ∧ (aboveT q.type = true ∨ ofCutB d = false)) ∨ (Cov z y d q.name ∧ underN d.text q.name = true)) :
    referB (vw (chZ z) q) = false ∧ kindW (chZ z) q = 5 := by
  obtain ⟨hn, t1, t8⟩ := questB_name hq
  obtain ⟨t, ht⟩ : ∃ t : Nat, q.type = t := ⟨q.type.toNat, by omega⟩
  rcases hh with ⟨e, hs, hc⟩ | ⟨c, hu⟩
  · rw [ht] at hs hc
    obtain ⟨k1, k3⟩ := silent_none hv hlen h (by omega) (by omega) hs hc
    rw [e] at k1 k3
    have hmem : q.name ∈ nsZ z := e ▸ h.name
    refine ⟨?_, kind5_of ?_ k3 (ns_exists hv hmem (under_self _))⟩
    · rw [vw_refer, ch_cutOf hv hlen]
      rcases spec_cases (validZ_ordered hv) q.name with ⟨c1, _⟩ | ⟨c1, c2, _⟩
      · rw [c1]; rfl
      · have ec := ns_cut hv hmem c1 c2
        have hcut : ofCutB d = true := (h.cut hv hlen).2 (by rw [e, ec]; exact c1)
        have hab : specialQ q = true := by
          rcases hc with hc | hc
          · unfold specialQ; rw [ht]; exact hc
          · rw [hcut] at hc; cases hc
        rw [hab, ← ec]
        simp
    · show hasS (chZ z).sets ⟨q.name, q.type⟩ = false
      rw [ht]; exact k1
  · have ho := speak_open hv hlen h hn c hsp
    refine ⟨opn_refer hv hlen ho, kind5_of ?_ (open_has hv ho (c.not h) 3) (ns_exists hv h.to hu)⟩
    exact open_has hv ho (c.not h) q.type
theorem valid_up {n b : Bs} (hn : validN n = true) (hu : underN n b = true) : validN b = true := by
  unfold underN at hu
  have := valid_suffix (List.isSuffixOf_iff_suffix.1 hu) hn
  rwa [nameOf_labs] at this
/-- What does not exist: the closest name above it is the one that the covering set shows. -/
theorem shown_close {z : Zone} (hv : validZ z = true) (hlen : z.sets.length ≤ 10000) {n : Bs} {y : RSet} {d : Datum} (hn : validN n = true) (h : NxS z y d) (c : Cov z y d n) (ho : Opn z n) :
    underN n (shown n y d) = true ∧ (∃ m ∈ nsZ z, underN m (shown n y d) = true) ∧ ∀ b, underN n b = true → (b = z.apex ∨ ∃ m ∈ nsZ z, underN m b = true) → underN (shown n y d) b = true := by
  obtain ⟨h1, h2, h3, h4⟩ := shown_up (s := y) (d := d) hn
  refine ⟨h1, ?_, fun b hb hx => ?_⟩
  · rcases h4 with e | e
    · exact ⟨y.name, h.name, by rw [e]; exact common_right _ hn⟩
    · exact ⟨d.text, h.to, by rw [e]; exact common_right _ hn⟩
  · obtain ⟨m, hm, hu⟩ : ∃ m ∈ nsZ z, underN m b = true := by
      rcases hx with e | hx
      · exact ⟨z.apex, apex_mem hv, by rw [e]; exact under_self _⟩
      · exact hx
    by_cases hle : compareN m n ≤ 0
    · have k := c.le h hm hle
      have := stretch2 hu hb k (by have := c.lt; omega)
      have h5 := common_most (b := y.name) b hn
      rw [hb, this] at h5
      exact under_trans h2 h5.symm
    · obtain ⟨k1, k2⟩ := c.ge h hm (by have := cN_not hle; omega)
      have := stretch2 hb hu (by omega) k2
      have h5 := common_most (b := d.text) b hn
      rw [hb, this] at h5
      exact under_trans h3 h5.symm
theorem none_exists {z : Zone} (hv : validZ z = true) {n : Bs} {y : RSet} {d : Datum} (h : NxS z y d) (c : Cov z y d n) (ho : Opn z n) (hto : underN d.text n = false) : ¬ ∃ m ∈ nsZ z, underN m n = true := by
  rintro ⟨m, hm, hu⟩
  obtain ⟨k1, k2⟩ := c.ge h hm (stretch1 hu)
  rw [stretch2 (under_self n) hu (by omega) k2] at hto
  cases hto
theorem kind_none {z : Zone} (hv : validZ z = true) (hlen : z.sets.length ≤ 10000) {q : Quest} (hq : questB q = true) {y : RSet} {d : Datum} (h : NxS z y d) (c : Cov z y d q.name) (ho : Opn z q.name) (hto : underN d.text q.name = false) :
    kindW (chZ z) q = kindS (chZ z) q (starR (shown q.name y d)) := by
  have hn := (questB_name hq).1
  have hc := (chain_small hv hlen).2
  have hoc := validZ_ordered hc
  have hno := none_exists hv h c ho hto
  have hx : existsR (chZ z) q.name = false := by rw [← Bool.not_eq_true, exists_ns hv ho]; exact hno
  obtain ⟨k1, k2, k3⟩ := shown_close hv hlen hn h c ho
  have hcl : closeB (chZ z).apex (chZ z).sets q.name = shown q.name y d := by
    refine closeGo_is _ _ hn (Nat.lt_succ_self _) k1 (.inr ?_) fun b hb hx => k3 b hb ?_
    · rw [exB_exists hoc (valid_up hn k1)]
      exact (exists_ns hv (ho.up k1)).2 k2
    · rcases hx with e | hx
      · exact .inl e
      · rw [exB_exists hoc (valid_up hn hb)] at hx
        exact .inr ((exists_ns hv (ho.up hb)).1 hx)
  unfold kindW
  rw [if_neg (by rw [show hasS (chZ z).sets q = false from no_name hx q.type]; decide), if_neg (by rw [no_name hx 3]; simp), if_neg (by simp [hx]), hcl]
theorem wild_no2 {y : Zone} (ho : Ordered y) {n : Bs} (hw : wildN n = true) : hasS y.sets ⟨n, 2⟩ = false := by
  rw [← Bool.not_eq_true]
  intro h
  obtain ⟨s, hs, hp⟩ := has_iff.1 h
  have e1 : s.set.name = n := congrArg Prod.fst hp
  have e2 : s.set.type = 2 := congrArg Prod.snd hp
  have hb := ho.set s hs
  have hr : (ruleOf 2).wild = false := rfl
  unfold setB at hb
  rw [e1, e2, hw, hr] at hb
  simp at hb
theorem star_opn {z : Zone} (hv : validZ z = true) {r : Bs} (ho : Opn z r) (hw : (wildOf r).2 = true) : Opn z (starR r) := fun k hk => by
  rw [← Bool.not_eq_true]
  intro hu
  rcases under_total (star_under hw).1 hu with h | h
  · have := ho k hk; rw [h] at this; cases this
  · have hkv := (cut_ne (validZ_ordered hv) hk).2.2.1
    by_cases e : k = starR r
    · have hne : starR r ≠ [] := valid_ne_nil (wildOf_yes hw).1
      have h2 := wild_no2 (validZ_ordered hv) (star_wild hne)
      rw [← e, (cut_ne (validZ_ordered hv) hk).2.2.2.2] at h2
      cases h2
    · -- k is above the wildcard, and under the name: it is the name
      have l1 := (wildOf_yes hw).2
      unfold underN at hu h
      rw [l1] at hu
      obtain ⟨p, hp⟩ := List.isSuffixOf_iff_suffix.1 hu
      cases p with
      | nil => exact e (labs_inj (by rw [l1, ← hp]; rfl))
      | cons x t =>
        simp only [List.cons_append, List.cons.injEq] at hp
        have h5 : underN r k = true := by
          unfold underN
          exact List.isSuffixOf_iff_suffix.2 ⟨t, hp.2⟩
        have := ho k hk; rw [h5] at this; cases this
end NP

/-
  Plain: what next sets of a chain deny is what lookup says; more of them deny it, too; a proof denies.
-/
set_option linter.unusedSimpArgs false
set_option linter.unusedVariables false
set_option maxRecDepth 100000
namespace NP
open NQ Go
theorem NxS.first {z : Zone} {y : RSet} {d : Datum} (h : NxS z y d) : y.data[0]? = some d := by rw [h.data]; rfl
theorem NxS.silentS {z : Zone} {y : RSet} {d : Datum} (h : NxS z y d) (t : Int) : NP.silentS t y = silentB d t := by unfold NP.silentS; rw [h.first]
theorem NxS.speaksS {z : Zone} {y : RSet} {d : Datum} (h : NxS z y d) (n : Bs) : NP.speaksS n y = speaksB y d n := by unfold NP.speaksS; rw [h.first]
theorem NxS.coversS {z : Zone} {y : RSet} {d : Datum} (h : NxS z y d) (a n : Bs) : NP.coversS a n y = coversB a y d n := by unfold NP.coversS; rw [h.first]
theorem NxS.ofCutS {z : Zone} {y : RSet} {d : Datum} (h : NxS z y d) : NP.ofCutS y = ofCutB d := by unfold NP.ofCutS; rw [h.first]
theorem NxS.toUnder {z : Zone} (hv : validZ z = true) {y : RSet} {d : Datum} (h : NxS z y d) {n : Bs} (hn : validN n = true) : NP.toUnder n y = underN d.text n := by
  unfold NP.toUnder; rw [h.first]; exact underR_eq (ns_set hv h.to).1 hn
theorem NxS.shownS {z : Zone} {y : RSet} {d : Datum} (h : NxS z y d) (n : Bs) : NP.shownS n y = shown n y d := by unfold NP.shownS; rw [h.first]
theorem NxS.hit {z : Zone} (hv : validZ z = true) {y : RSet} {d : Datum} (h : NxS z y d) {q : Quest} (hn : validN q.name = true) :
    hit9 z.apex q y = true ↔ (y.name = q.name ∧ silentB d q.type = true ∧ (aboveT q.type = true ∨ ofCutB d = false)) ∨ (Cov z y d q.name ∧ underN d.text q.name = true) := by
  unfold hit9
  rw [h.silentS, h.ofCutS, h.coversS, h.toUnder hv hn]
  simp only [Bool.or_eq_true, Bool.and_eq_true, beq_iff_eq, Bool.not_eq_true', cov_iff hv h hn]
  constructor
  · rintro (⟨⟨a, b⟩, c⟩ | k)
    · exact .inl ⟨a, b, c⟩
    · exact .inr k
  · rintro (⟨a, b, c⟩ | k)
    · exact .inl ⟨⟨a, b⟩, c⟩
    · exact .inr k
theorem has_nil {z : Zone} (hv : validZ z = true) (t : Int) : hasS z.sets ⟨[], t⟩ = false := by
  rw [← Bool.not_eq_true]
  intro h
  obtain ⟨s, hs, hp⟩ := has_iff.1 h
  have e1 : s.set.name = [] := congrArg Prod.fst hp
  exact valid_ne_nil (name_valid hv hs) e1
theorem wild_none {z : Zone} (hv : validZ z = true) (hlen : z.sets.length ≤ 10000) {q : Quest} {r : Bs} (hw : (wildOf r).2 = false) : kindS (chZ z) q (starR r) = 6 := by
  have hc := (chain_small hv hlen).2
  unfold kindS
  rw [wildOf_no hw, if_neg (by rw [has_nil hc]; decide), if_neg (by rw [has_nil hc]; simp), if_neg (by simp)]
theorem wild_next {z : Zone} (hv : validZ z = true) (hlen : z.sets.length ≤ 10000) {q : Quest} (hq : questB q = true) {r : Bs} {t : RSet} {e : Datum} (h : NxS z t e) (hn : t.name = starR r) (hw : (wildOf r).2 = true) (hs : silentB e q.type = true) : kindS (chZ z) q (starR r) = 5 := by
  have hc := (chain_small hv hlen).2
  obtain ⟨_, t1, t8⟩ := questB_name hq
  obtain ⟨k, hk⟩ : ∃ t : Nat, q.type = t := ⟨q.type.toNat, by omega⟩
  rw [hk] at hs
  have hne : starR r ≠ [] := valid_ne_nil (wildOf_yes hw).1
  have hcut : ofCutB e = false := by
    rw [← Bool.not_eq_true]
    intro hb
    have := (h.cut hv hlen).1 hb
    have h2 := wild_no2 (validZ_ordered hv) (star_wild hne)
    rw [← hn, (cut_ne (validZ_ordered hv) this).2.2.2.2] at h2
    cases h2
  obtain ⟨k1, k3⟩ := silent_none hv hlen h (by omega) (by omega) hs (.inr hcut)
  rw [hn] at k1 k3
  have hx : existsR (chZ z) (starR r) = true := ns_exists hv h.name (by rw [hn]; exact under_self _)
  unfold kindS
  rw [hk, if_neg (by rw [k1]; decide), if_neg (by rw [k3]; simp), if_pos (by rw [hx]; simp [hne])]
theorem wild_cov {z : Zone} (hv : validZ z = true) (hlen : z.sets.length ≤ 10000) {q : Quest} {r : Bs} (ho : Opn z r) (hw : (wildOf r).2 = true) (hn : starR r ∉ nsZ z) : kindS (chZ z) q (starR r) = 6 := by
  have hso := star_opn hv ho hw
  have hx : existsR (chZ z) (starR r) = false := by
    rw [← Bool.not_eq_true, exists_ns hv hso]
    rintro ⟨m, hm, hu⟩
    exact hn (star_alone hw (ns_set hv hm).1 hu ▸ hm)
  unfold kindS
  rw [if_neg (by rw [no_name hx]; decide), if_neg (by rw [no_name hx]; simp), if_neg (by rw [hx]; simp)]
/-- A set that shows what does not exist, and what it is for. -/
structure Shows (z : Zone) (q : Quest) (s : RSet) : Prop where
  mem : s ∈ nxZ z
  set : ∃ d, NxS z s d ∧ Cov z s d q.name ∧ Opn z q.name ∧ underN d.text q.name = false
theorem below_one {z : Zone} (hv : validZ z = true) (hlen : z.sets.length ≤ 10000) {q : Quest} (hq : questB q = true) (N : List RSet) (hN : ∀ s ∈ N, s ∈ nxZ z) : ∀ C : List RSet, (∀ s ∈ C, Shows z q s) →
    belowR z.apex q N C ≠ 0 → kindW (chZ z) q = belowR z.apex q N C
  | [], _, h => absurd rfl h
  | s :: t, hC, h => by
    obtain ⟨hm, d, hd, c, ho, hto⟩ := hC s (List.mem_cons_self ..)
    have ih := below_one hv hlen hq N hN t fun x hx => hC x (List.mem_cons_of_mem _ hx)
    have hn := (questB_name hq).1
    rw [belowR_cons, hd.shownS] at h ⊢
    rw [kind_none hv hlen hq hd c ho hto]
    rw [kind_none hv hlen hq hd c ho hto] at ih
    have hro : Opn z (shown q.name s d) := ho.up (shown_up hn).1
    cases hw : (wildOf (shown q.name s d)).2 with
    | false => rw [if_pos (by simp)]; exact wild_none hv hlen hw
    | true =>
      rw [if_neg (by simp)]
      rw [hw, if_neg (by simp)] at h
      rw [wildOf_star] at h ⊢
      split
      · rename_i h1
        obtain ⟨x, hx, hp⟩ := List.any_eq_true.1 h1
        obtain ⟨e, he⟩ := nx_of hv (hN x hx)
        unfold p1B at hp
        rw [he.silentS, Bool.and_eq_true, beq_iff_eq] at hp
        exact wild_next hv hlen hq he hp.1 hw hp.2
      · rename_i h1
        rw [if_neg h1] at h
        split
        · rename_i h2
          obtain ⟨x, hx, hp⟩ := List.any_eq_true.1 h2
          obtain ⟨e, he⟩ := nx_of hv (hN x hx)
          unfold p2B at hp
          rw [he.speaksS, he.coversS, Bool.and_eq_true, cov_iff hv he (wildOf_yes hw).1] at hp
          exact wild_cov hv hlen hro hw (hp.2.not he)
        · rename_i h2
          rw [if_neg h2] at h
          exact ih h
theorem below_ne (apex : Bs) (q : Quest) (N : List RSet) : ∀ C : List RSet, belowR apex q N C ≠ 0 ↔ ∃ s ∈ C, (wildOf (shownS q.name s)).2 = false ∨ N.any (p1B (wildOf (shownS q.name s)).1 q.type) = true ∨ N.any (p2B apex (wildOf (shownS q.name s)).1) = true
  | [] => ⟨fun h => absurd rfl h, fun ⟨s, hs, _⟩ => by cases hs⟩
  | s :: t => by
    have ih := below_ne apex q N t
    rw [belowR_cons]
    split
    · rename_i h
      exact ⟨fun _ => ⟨s, List.mem_cons_self .., .inl (by simpa using h)⟩, fun _ => by decide⟩
    · rename_i h
      split
      · rename_i h1
        exact ⟨fun _ => ⟨s, List.mem_cons_self .., .inr (.inl h1)⟩, fun _ => by decide⟩
      · rename_i h1
        split
        · rename_i h2
          exact ⟨fun _ => ⟨s, List.mem_cons_self .., .inr (.inr h2)⟩, fun _ => by decide⟩
        · rename_i h2
          rw [ih]
          constructor
          · rintro ⟨x, hx, k⟩; exact ⟨x, List.mem_cons_of_mem _ hx, k⟩
          · rintro ⟨x, hx, k⟩
            rcases List.mem_cons.1 hx with rfl | hx
            · rcases k with k | k | k
              · rw [k] at h; simp at h
              · exact absurd k h1
              · exact absurd k h2
            · exact ⟨x, hx, k⟩
theorem nx_next {z : Zone} (hv : validZ z = true) {s : RSet} (hs : s ∈ nxZ z) : nextB z.apex s = true := by
  obtain ⟨d, h⟩ := nx_of hv hs
  have ha := (validZ_ordered hv).apex
  have n1 := ns_set hv h.name
  have n2 := ns_set hv h.to
  unfold nextB
  rw [h.type, h.data, underR_eq n1.1 ha, n1.2]
  simp [underR_eq n2.1 ha, n2.2]
/-- What Denied says of next sets of a chain. -/
def outQ (z : Zone) (q : Quest) : Bool := !(underN q.name z.apex) || (q.name == z.apex && q.type == 6)
theorem deny_eq {z : Zone} (hv : validZ z = true) {q : Quest} (hq : questB q = true) {L : List RSet} (hL : ∀ s ∈ L, s ∈ nxZ z) : deniedR z.apex q L =
    if outQ z q = true then (0, 0) else if ((L.filter (speaksS q.name)).any (hit9 z.apex q)) = true then (5, 0) else (belowR z.apex q L ((L.filter (speaksS q.name)).filter (coversS z.apex q.name)), 0) := by
  have ho := validZ_ordered hv
  have hf : L.filter (nextB z.apex) = L := List.filter_eq_self.2 fun s hs => nx_next hv (hL s hs)
  have hall : L.all setB = true := List.all_eq_true.2 fun s hs => by obtain ⟨d, h⟩ := nx_of hv (hL s hs); exact h.ok
  unfold deniedR outQ
  rw [if_neg (by rw [ho.apex, ho.tame, hq]; decide), if_neg (by rw [hall]; decide), hf, underR_eq (questB_name hq).1 ho.apex]
theorem deny_sound {z : Zone} (hv : validZ z = true) (hlen : z.sets.length ≤ 10000) {q : Quest} (hq : questB q = true) {L : List RSet} (hL : ∀ s ∈ L, s ∈ nxZ z) :
    (deniedR z.apex q L).2 = 0 ∧ ((deniedR z.apex q L).1 ≠ 0 → underN q.name z.apex = true ∧ referB (vw (chZ z) q) = false ∧ kindW (chZ z) q = (deniedR z.apex q L).1) := by
  have hn := (questB_name hq).1
  rw [deny_eq hv hq hL]
  split
  · exact ⟨rfl, fun h => absurd rfl h⟩
  · rename_i hout
    have hu : underN q.name z.apex = true := by
      unfold outQ at hout
      simp only [Bool.or_eq_true, not_or, Bool.not_eq_true', Bool.not_eq_false] at hout
      exact hout.1
    split
    · rename_i hh
      obtain ⟨s, hs, hp⟩ := List.any_eq_true.1 hh
      obtain ⟨hm, hsp⟩ := List.mem_filter.1 hs
      obtain ⟨d, hd⟩ := nx_of hv (hL s hm)
      rw [hd.speaksS] at hsp
      exact ⟨rfl, fun _ => ⟨hu, hit_kind hv hlen hq hd hsp ((hd.hit hv hn).1 hp)⟩⟩
    · rename_i hh
      refine ⟨rfl, fun h => ⟨hu, ?_⟩⟩
      have h' : belowR z.apex q L ((L.filter (speaksS q.name)).filter (coversS z.apex q.name)) ≠ 0 := h
      have hC : ∀ s ∈ (L.filter (speaksS q.name)).filter (coversS z.apex q.name), Shows z q s := fun s hs => by
        obtain ⟨hs1, hc⟩ := List.mem_filter.1 hs
        obtain ⟨hm, hsp⟩ := List.mem_filter.1 hs1
        obtain ⟨d, hd⟩ := nx_of hv (hL s hm)
        rw [hd.speaksS] at hsp
        rw [hd.coversS, cov_iff hv hd hn] at hc
        refine ⟨hL s hm, d, hd, hc, speak_open hv hlen hd hn hc hsp, ?_⟩
        rw [← Bool.not_eq_true]
        intro hto
        exact hh (List.any_eq_true.2 ⟨s, hs1, (hd.hit hv hn).2 (.inr ⟨hc, hto⟩)⟩)
      obtain ⟨s, hs, _⟩ := (below_ne _ _ _ _).1 h'
      obtain ⟨_, d, _, _, hop, _⟩ := hC s hs
      exact ⟨opn_refer hv hlen hop, below_one hv hlen hq L hL _ hC h'⟩
end NP

/-
  Plain: the proof of a chain exists exactly if there is nothing, and denies it.
-/
set_option linter.unusedSimpArgs false
set_option linter.unusedVariables false
set_option maxRecDepth 100000
namespace NP
open NQ Go
/-- A question that belongs to a zone. -/
structure Bel (z : Zone) (q : Quest) : Prop where
  under : underN q.name z.apex = true
  apex : ¬ (q.name = z.apex ∧ q.type = 6)
  cut : Opn z q.name ∨ (q.name ∈ cutsL z.apex z.sets ∧ aboveT q.type = true)
theorem Bel.out {z : Zone} {q : Quest} (b : Bel z q) : outQ z q = false := by
  unfold outQ
  rw [b.under]
  have := b.apex
  rw [← Bool.not_eq_true]
  intro h
  apply this
  simpa using h
theorem fnd_next {z : Zone} (hv : validZ z = true) (hlen : z.sets.length ≤ 10000) {n : Bs} (hn : n ∈ nsZ z) : ∃ (k : Nat) (y : RSet), fndI (chZ z).sets ⟨n, 8⟩ = k ∧ (chZ z).sets[k]? = some ⟨y, []⟩ ∧ y ∈ nxZ z ∧ y.name = n := by
  have hc := (chain_small hv hlen).2
  have hh := (ch_has8 hv n).2 hn
  obtain ⟨x, hx, hm, hp⟩ := found_ok (validZ_ordered hc) (q := ⟨n, 8⟩) (ns_set hv hn).1 hh
  have e1 : x.set.name = n := congrArg Prod.fst hp
  have e2 : x.set.type = 8 := congrArg Prod.snd hp
  rcases (ch_mem hv x).1 hm with h | ⟨y, hy, rfl⟩
  · exact absurd e2 (bare_mem.1 h).2
  · exact ⟨posOf (chZ z).sets ⟨n, 8⟩, y, by unfold fndI; rw [if_pos hh], hx, hy, e1⟩
theorem cov_next {z : Zone} (hv : validZ z = true) {n : Bs} (hvn : validN n = true) (hu : underN n z.apex = true) (hn : n ∉ nsZ z) : ∃ (k : Nat) (y : RSet) (d : Datum), covI9 (chZ z) n = k ∧ (chZ z).sets[k]? = some ⟨y, []⟩ ∧ y ∈ nxZ z ∧ NxS z y d ∧ Cov z y d n := by
  obtain ⟨y0, hy0, d0, hd0, c0⟩ := cov_exists hv hu hn
  have h0 : cov9 (chZ z).apex n ⟨y0, []⟩ = true := by
    unfold cov9
    rw [show (chZ z).apex = z.apex from rfl, nx_next hv hy0, hd0.first]
    show (true && coversB z.apex y0 d0 n) = true
    rw [(cov_iff hv hd0 hvn).2 c0]; rfl
  have hm0 : (⟨y0, []⟩ : Signed) ∈ (chZ z).sets := (ch_mem hv _).2 (.inr ⟨y0, hy0, rfl⟩)
  unfold covI9
  cases hf : (chZ z).sets.findIdx? (cov9 (chZ z).apex n) with
  | none =>
    rw [List.findIdx?_eq_none_iff] at hf
    have := hf _ hm0
    rw [h0] at this; cases this
  | some k =>
    obtain ⟨h1, h2, _⟩ := List.findIdx?_eq_some_iff_getElem.1 hf
    obtain ⟨x, hx⟩ : ∃ x, (chZ z).sets[k]? = some x := ⟨_, List.getElem?_eq_getElem h1⟩
    have hxe : (chZ z).sets[k] = x := (List.getElem?_eq_some_iff.1 hx).2
    rw [hxe] at h2
    unfold cov9 at h2
    rw [Bool.and_eq_true] at h2
    have ht : x.set.type = 8 := by
      have := h2.1
      unfold nextB at this
      simp only [Bool.and_eq_true, beq_iff_eq] at this
      exact this.1.1
    rcases (ch_mem hv x).1 (List.mem_of_getElem? hx) with h | ⟨y, hy, rfl⟩
    · exact absurd ht (bare_mem.1 h).2
    · obtain ⟨d, hd⟩ := nx_of hv hy
      have h3 := h2.2
      rw [show (⟨y, []⟩ : Signed).set.data[0]? = some d from hd.first] at h3
      exact ⟨k, y, d, rfl, hx, hy, hd, (cov_iff hv hd hvn).1 h3⟩
theorem res_one {l : List Signed} {k : Nat} {s : Signed} (h : l[k]? = some s) : resR l [(k : Int)] = ([s], 0) := by
  have hk : ((k : Int)).toNat = k := by omega
  unfold resR
  rw [resGo, if_neg (by simp), if_neg (by simp), resGo]
  unfold pickOne
  rw [hk, h]; rfl
theorem res_two {l : List Signed} {k j : Nat} {s t : Signed} (h : l[k]? = some s) (h' : l[j]? = some t) : resR l ([(k : Int)] ++ [(j : Int)]) = (if k = j then [s] else [s, t], 0) := by
  have hk : ((k : Int)).toNat = k := by omega
  have hj : ((j : Int)).toNat = j := by omega
  unfold resR
  show resGo l [] [(k : Int), (j : Int)] [] = _
  rw [resGo, if_neg (by simp), if_neg (by simp), resGo, if_neg (by simp)]
  unfold pickOne
  rw [hk, h, hj, h', resGo]
  by_cases e : k = j
  · subst e; rw [if_pos (by simp), if_pos rfl]; rfl
  · have e2 : ¬ ((j : Int) = (k : Int)) := by omega
    rw [if_neg (by simp; omega), if_neg e]; rfl
/-- What a list of next sets denies: at least one rule holds. -/
theorem deny_hit {z : Zone} (hv : validZ z = true) {q : Quest} (hq : questB q = true) (b : Bel z q) {L : List RSet} (hL : ∀ s ∈ L, s ∈ nxZ z) {y : RSet} {d : Datum} (hy : y ∈ L) (hd : NxS z y d) (hsp : speaksB y d q.name = true)
    (hh : (y.name = q.name ∧ silentB d q.type = true ∧ (aboveT q.type = true ∨ ofCutB d = false)) ∨ (Cov z y d q.name ∧ underN d.text q.name = true)) : (deniedR z.apex q L).1 ≠ 0 := by
  rw [deny_eq hv hq hL, if_neg (by rw [b.out]; decide), if_pos]
  · decide
  · exact List.any_eq_true.2 ⟨y, List.mem_filter.2 ⟨hy, by rw [hd.speaksS]; exact hsp⟩, (hd.hit hv (questB_name hq).1).2 hh⟩
theorem deny_below {z : Zone} (hv : validZ z = true) {q : Quest} (hq : questB q = true) (b : Bel z q) {L : List RSet} (hL : ∀ s ∈ L, s ∈ nxZ z) {y : RSet} {d : Datum} (hy : y ∈ L) (hd : NxS z y d) (c : Cov z y d q.name) (hsp : speaksB y d q.name = true)
    (hw : (wildOf (shown q.name y d)).2 = false ∨ L.any (p1B (wildOf (shown q.name y d)).1 q.type) = true ∨ L.any (p2B z.apex (wildOf (shown q.name y d)).1) = true) : (deniedR z.apex q L).1 ≠ 0 := by
  rw [deny_eq hv hq hL, if_neg (by rw [b.out]; decide)]
  split
  · decide
  · show belowR z.apex q L _ ≠ 0
    rw [below_ne]
    refine ⟨y, List.mem_filter.2 ⟨List.mem_filter.2 ⟨hy, by rw [hd.speaksS]; exact hsp⟩, by rw [hd.coversS]; exact (cov_iff hv hd (questB_name hq).1).2 c⟩, ?_⟩
    rw [hd.shownS]
    exact hw
theorem wild_no3 {y : Zone} (ho : Ordered y) {n : Bs} (hw : wildN n = true) : hasS y.sets ⟨n, 3⟩ = false := by
  rw [← Bool.not_eq_true]
  intro h
  obtain ⟨s, hs, hp⟩ := has_iff.1 h
  have e1 : s.set.name = n := congrArg Prod.fst hp
  have e2 : s.set.type = 3 := congrArg Prod.snd hp
  have hb := ho.set s hs
  have hr : (ruleOf 3).wild = false := rfl
  unfold setB at hb
  rw [e1, e2, hw, hr] at hb
  simp at hb
theorem silent_of {z : Zone} (hv : validZ z = true) {y : RSet} {d : Datum} (h : NxS z y d) {t : Nat} (h1 : 1 ≤ t) (h8 : t ≤ 8) (k1 : hasS (chZ z).sets ⟨y.name, t⟩ = false) (k3 : hasS (chZ z).sets ⟨y.name, 3⟩ = false) : silentB d t = true := by
  have e3 : hasB d ((3 : Nat) : Int) = false := by rw [h.bit hv (by decide) (by decide)]; rw [show hasS (chZ z).sets ⟨y.name, ((3 : Nat) : Int)⟩ = false from k3]; rfl
  have e3' : hasB d 3 = false := e3
  unfold silentB
  rw [h.bit hv h1 h8, k1, e3']; rfl
def asSigned (y : RSet) : Signed := ⟨y, []⟩
/-- What a proof is. -/
structure IsProof (z : Zone) (q : Quest) (L : List RSet) : Prop where
  eq : proofR (chZ z) q = (L.map asSigned, 0)
  few : L.length ≤ 2
  mem : ∀ s ∈ L, s ∈ nxZ z
  deny : (deniedR z.apex q L).1 ≠ 0
theorem proof_law {z : Zone} (hv : validZ z = true) (hlen : z.sets.length ≤ 10000) {q : Quest} (hq : questB q = true) (b : Bel z q) (hb : belongsB (chZ z) q = true) :
    (kindW (chZ z) q ≠ 5 ∧ kindW (chZ z) q ≠ 6 ∧ proofR (chZ z) q = ([], 6)) ∨ ∃ L, IsProof z q L := by
  have hc := (chain_small hv hlen).2
  have hoc := validZ_ordered hc
  obtain ⟨hn, t1, t8⟩ := questB_name hq
  obtain ⟨t, ht⟩ : ∃ t : Nat, q.type = t := ⟨q.type.toNat, by omega⟩
  have hA := ns_asc hv
  have hvn : ∀ m ∈ nsZ z, validN m = true := fun m hm => (ns_set hv hm).1
  have hP : proofR (chZ z) q = if (!exL (nsZ z) q.name) = true then noNameR (chZ z) (nsZ z) q
      else if ansN (chZ z) q.name q.type = true then ([], 6)
      else if isL (nsZ z) q.name = true then resR (chZ z).sets [fndI (chZ z).sets ⟨q.name, 8⟩] else resR (chZ z).sets [covI9 (chZ z) q.name] := by
    unfold proofR
    rw [if_neg (by simp [hq, hc]), if_neg (by simp [hb]), ch_ns hv hlen]
  by_cases hx : ∃ m ∈ nsZ z, underN m q.name = true
  · have he : exL (nsZ z) q.name = true := (exL_iff hA hvn hn).2 hx
    have hex : existsR (chZ z) q.name = true := by obtain ⟨m, hm, hu⟩ := hx; exact ns_exists hv hm hu
    rw [if_neg (by simp [he])] at hP
    by_cases ha : ansN (chZ z) q.name q.type = true
    · rw [if_pos ha] at hP
      refine .inl ?_
      have hk : kindW (chZ z) q = 1 ∨ kindW (chZ z) q = 3 := by
        unfold kindW
        by_cases h1 : hasS (chZ z).sets q = true
        · rw [if_pos h1]; exact .inl rfl
        · rw [if_neg h1]
          unfold ansN at ha
          have h1' : hasS (chZ z).sets ⟨q.name, q.type⟩ = false := by simpa using h1
          rw [h1', Bool.false_or] at ha
          by_cases h8 : q.type = 8
          · exfalso
            obtain ⟨s, hs, hp⟩ := has_iff.1 ha
            have e1 : s.set.name = q.name := congrArg Prod.fst hp
            have hns : q.name ∈ nsZ z := by
              rcases ch_behind hv hs with h | ⟨k, hk, h2, h3⟩
              · exact e1 ▸ h
              · rcases b.cut with c | ⟨c, _⟩
                · have := c k hk; rw [← e1, h2] at this; cases this
                · exact cut_ns hv c
            have := (ch_has8 hv q.name).2 hns
            rw [h8] at h1'
            rw [this] at h1'; cases h1'
          · rw [if_pos (by rw [ha]; simp [h8])]; exact .inr rfl
      refine ⟨?_, ?_, hP⟩ <;> rcases hk with h | h <;> rw [h] <;> decide
    · rw [if_neg ha] at hP
      unfold ansN at ha
      simp only [Bool.or_eq_true, not_or, Bool.not_eq_true] at ha
      obtain ⟨a1, a3⟩ := ha
      refine .inr ?_
      by_cases hm : q.name ∈ nsZ z
      · rw [if_pos ((isL_iff hA _).2 hm)] at hP
        obtain ⟨k, y, e1, e2, e3, e4⟩ := fnd_next hv hlen hm
        obtain ⟨d, hd⟩ := nx_of hv e3
        rw [e1, res_one e2] at hP
        have hL : ∀ s ∈ [y], s ∈ nxZ z := fun s hs => by simp at hs; subst hs; exact e3
        rw [ht] at a1
        refine ⟨[y], hP, by simp, hL, deny_hit hv hq b hL (List.mem_singleton_self y) hd ?_ (.inl ⟨e4, ?_, ?_⟩)⟩
        · exact (speaks_iff hv hlen hd hn).2 fun _ => .inl e4.symm
        · rw [ht]; exact silent_of hv hd (by omega) (by omega) (by rw [e4]; exact a1) (by rw [e4]; exact a3)
        · cases hcut : ofCutB d with
          | false => exact .inr rfl
          | true =>
            have := (hd.cut hv hlen).1 hcut
            rw [e4] at this
            rcases b.cut with c | ⟨_, c⟩
            · have h2 := c _ this; rw [under_self] at h2; cases h2
            · exact .inl c
      · rw [if_neg fun h => hm ((isL_iff hA _).1 h)] at hP
        obtain ⟨k, y, d, e1, e2, e3, hd, hcv⟩ := cov_next hv hn b.under hm
        rw [e1, res_one e2] at hP
        have hL : ∀ s ∈ [y], s ∈ nxZ z := fun s hs => by simp at hs; subst hs; exact e3
        have hop : Opn z q.name := by
          rcases b.cut with c | ⟨c, _⟩
          · exact c
          · exact absurd (cut_ns hv c) hm
        obtain ⟨m, hmm, hu⟩ := hx
        obtain ⟨g1, g2⟩ := hcv.ge hd hmm (stretch1 hu)
        exact ⟨[y], hP, by simp, hL, deny_hit hv hq b hL (List.mem_singleton_self y) hd (open_speak hv hlen hd hn hop) (.inr ⟨hcv, stretch2 (under_self _) hu (by omega) g2⟩)⟩
  · have he : exL (nsZ z) q.name = false := by rw [← Bool.not_eq_true, exL_iff hA hvn hn]; exact hx
    rw [if_pos (by simp [he])] at hP
    have hm : q.name ∉ nsZ z := fun h => hx ⟨_, h, under_self _⟩
    have hop : Opn z q.name := by
      rcases b.cut with c | ⟨c, _⟩
      · exact c
      · exact absurd (cut_ns hv c) hm
    obtain ⟨k, y, d, e1, e2, e3, hd, hcv⟩ := cov_next hv hn b.under hm
    have hto : underN d.text q.name = false := by
      rw [← Bool.not_eq_true]; intro h; exact hx ⟨_, hd.to, h⟩
    have hkn := kind_none hv hlen hq hd hcv hop hto
    have hsp := open_speak hv hlen hd hn hop
    obtain ⟨c1, c2, c3⟩ := shown_close hv hlen hn hd hcv hop
    have hcl : closeL (chZ z).apex (nsZ z) q.name = shown q.name y d := by
      refine clL_is _ _ hn (Nat.lt_succ_self _) c1 (.inr ((exL_iff hA hvn (valid_up hn c1)).2 c2)) fun x hxu hxe => c3 x hxu ?_
      rcases hxe with e | e
      · exact .inl e
      · exact .inr ((exL_iff hA hvn (valid_up hn hxu)).1 e)
    have hro := hop.up c1
    unfold noNameR at hP
    rw [hcl, wildOf_star] at hP
    cases hw : (wildOf (shown q.name y d)).2 with
    | false =>
      rw [hw, if_neg (by simp), if_pos (by simp), List.append_nil, e1, res_one e2] at hP
      have hL : ∀ s ∈ [y], s ∈ nxZ z := fun s hs => by simp at hs; subst hs; exact e3
      exact .inr ⟨[y], hP, by simp, hL, deny_below hv hq b hL (List.mem_singleton_self y) hd hcv hsp (.inl hw)⟩
    | true =>
      obtain ⟨w1, w2⟩ := wildOf_yes hw
      have hwn := star_wild (valid_ne_nil w1)
      have w3 := wild_no3 hoc hwn
      by_cases ha : ansN (chZ z) (starR (shown q.name y d)) q.type = true
      · rw [if_pos (by rw [hw, ha]; rfl)] at hP
        unfold ansN at ha
        rw [w3, Bool.or_false] at ha
        refine .inl ?_
        have : kindW (chZ z) q = 2 := by rw [hkn]; unfold kindS; rw [if_pos ha]
        rw [this]
        exact ⟨by decide, by decide, hP⟩
      · rw [if_neg (by rw [hw, Bool.true_and]; exact ha), if_neg (by simp [hw]), e1] at hP
        unfold ansN at ha
        rw [w3, Bool.or_false] at ha
        have ha' : hasS (chZ z).sets ⟨starR (shown q.name y d), q.type⟩ = false := by simpa using ha
        have hwu : underN (starR (shown q.name y d)) z.apex = true := under_trans (star_under hw).1 (by
          rcases under_total c1 b.under with h | h
          · exact h
          · exact c3 _ b.under (.inl rfl))
        refine .inr ?_
        by_cases hwm : starR (shown q.name y d) ∈ nsZ z
        · rw [if_pos ((isL_iff hA _).2 hwm)] at hP
          obtain ⟨j, x, f1, f2, f3, f4⟩ := fnd_next hv hlen hwm
          obtain ⟨e, hxe⟩ := nx_of hv f3
          rw [f1, res_two e2 f2] at hP
          have hsil : silentB e q.type = true := by
            rw [ht] at ha' ⊢
            exact silent_of hv hxe (by omega) (by omega) (by rw [f4]; exact ha') (by rw [f4]; exact w3)
          have hpx : p1B (wildOf (shown q.name y d)).1 q.type x = true := by
            unfold p1B; rw [hxe.silentS, hsil, wildOf_star, f4]; simp
          by_cases ekj : k = j
          · rw [if_pos ekj] at hP
            subst ekj
            rw [e2] at f2
            have exy : y = x := by injection f2 with h; injection h
            subst exy
            have hL : ∀ s ∈ [y], s ∈ nxZ z := fun s hs => by simp at hs; subst hs; exact e3
            exact ⟨[y], hP, by simp, hL, deny_below hv hq b hL (List.mem_singleton_self y) hd hcv hsp (.inr (.inl (List.any_eq_true.2 ⟨y, List.mem_singleton_self y, hpx⟩)))⟩
          · rw [if_neg ekj] at hP
            have hL : ∀ s ∈ [y, x], s ∈ nxZ z := fun s hs => by
              simp at hs
              rcases hs with rfl | rfl
              · exact e3
              · exact f3
            exact ⟨[y, x], hP, by simp, hL, deny_below hv hq b hL (by simp) hd hcv hsp (.inr (.inl (List.any_eq_true.2 ⟨x, by simp, hpx⟩)))⟩
        · rw [if_neg fun h => hwm ((isL_iff hA _).1 h)] at hP
          obtain ⟨j, x, e, f1, f2, f3, hxe, hxc⟩ := cov_next hv w1 hwu hwm
          rw [f1, res_two e2 f2] at hP
          have hpx : p2B z.apex (wildOf (shown q.name y d)).1 x = true := by
            unfold p2B; rw [hxe.speaksS, hxe.coversS, wildOf_star, (cov_iff hv hxe w1).2 hxc, open_speak hv hlen hxe w1 (star_opn hv hro hw)]; rfl
          by_cases ekj : k = j
          · rw [if_pos ekj] at hP
            subst ekj
            rw [e2] at f2
            have exy : y = x := by injection f2 with h; injection h
            subst exy
            have hL : ∀ s ∈ [y], s ∈ nxZ z := fun s hs => by simp at hs; subst hs; exact e3
            exact ⟨[y], hP, by simp, hL, deny_below hv hq b hL (List.mem_singleton_self y) hd hcv hsp (.inr (.inr (List.any_eq_true.2 ⟨y, List.mem_singleton_self y, hpx⟩)))⟩
          · rw [if_neg ekj] at hP
            have hL : ∀ s ∈ [y, x], s ∈ nxZ z := fun s hs => by
              simp at hs
              rcases hs with rfl | rfl
              · exact e3
              · exact f3
            exact ⟨[y, x], hP, by simp, hL, deny_below hv hq b hL (by simp) hd hcv hsp (.inr (.inr (List.any_eq_true.2 ⟨x, by simp, hpx⟩)))⟩
end NP

/-
  Plain: the reference's chain is the chain.
-/
set_option linter.unusedSimpArgs false
set_option linter.unusedVariables false
set_option maxRecDepth 100000
namespace NP
open NQ Go
/-- Sets in order, and next sets, one after the other by their names. -/
def rwv : List Signed → List RSet → List Signed
  | l, [] => l
  | [], y :: t => ⟨y, []⟩ :: rwv [] t
  | s :: l, y :: t => if compareN s.set.name y.name ≤ 0 then s :: rwv l (y :: t) else ⟨y, []⟩ :: rwv (s :: l) t
termination_by l t => l.length + t.length
theorem rwv_nil (l : List Signed) : rwv l [] = l := by rw [rwv.eq_def]
theorem rwv_one (y : RSet) (t : List RSet) : rwv [] (y :: t) = ⟨y, []⟩ :: rwv [] t := by rw [rwv.eq_def]
theorem rwv_cons (s : Signed) (l : List Signed) (y : RSet) (t : List RSet) : rwv (s :: l) (y :: t) = if compareN s.set.name y.name ≤ 0 then s :: rwv l (y :: t) else ⟨y, []⟩ :: rwv (s :: l) t := by
  conv => lhs; rw [rwv.eq_def]
theorem rwv_spec : ∀ (l : List Signed) (t : List RSet), RP l → (∀ s ∈ l, s.set.type < 8) → t.Pairwise (fun a b => compareN a.name b.name < 0) → (∀ y ∈ t, y.type = 8) →
    RP (rwv l t) ∧ ∀ x, x ∈ rwv l t ↔ x ∈ l ∨ ∃ y ∈ t, x = ⟨y, []⟩
  | l, [], h, _, _, _ => by
    rw [rwv_nil]
    exact ⟨h, fun x => by simp⟩
  | [], y :: t, h, h8, hp, ht => by
    obtain ⟨p1, p2⟩ := List.pairwise_cons.1 hp
    obtain ⟨i1, i2⟩ := rwv_spec [] t h h8 p2 fun x hx => ht x (List.mem_cons_of_mem _ hx)
    rw [rwv_one]
    refine ⟨List.pairwise_cons.2 ⟨fun x hx => ?_, i1⟩, fun x => ?_⟩
    · rcases (i2 x).1 hx with h | ⟨z, hz, rfl⟩
      · cases h
      · exact cpl_name (p1 z hz)
    · rw [List.mem_cons, i2 x]
      simp only [List.mem_cons, List.not_mem_nil, false_or]
      constructor
      · rintro (rfl | ⟨z, hz, rfl⟩)
        · exact ⟨y, .inl rfl, rfl⟩
        · exact ⟨z, .inr hz, rfl⟩
      · rintro ⟨z, rfl | hz, rfl⟩
        · exact .inl rfl
        · exact .inr ⟨z, hz, rfl⟩
  | s :: l, y :: t, h, h8, hp, ht => by
    obtain ⟨s1, s2⟩ := List.pairwise_cons.1 h
    obtain ⟨p1, p2⟩ := List.pairwise_cons.1 hp
    rw [rwv_cons]
    have hs8 := h8 s (List.mem_cons_self ..)
    have hy8 := ht y (List.mem_cons_self ..)
    split
    · rename_i hle
      obtain ⟨i1, i2⟩ := rwv_spec l (y :: t) s2 (fun x hx => h8 x (List.mem_cons_of_mem _ hx)) hp ht
      refine ⟨List.pairwise_cons.2 ⟨fun x hx => ?_, i1⟩, fun x => ?_⟩
      · rcases (i2 x).1 hx with k | ⟨z, hz, rfl⟩
        · exact s1 x k
        · have hz8 := ht z hz
          rcases List.mem_cons.1 hz with rfl | hz
          · by_cases e : s.set.name = z.name
            · exact cpl_type e (by show s.set.type < z.type; omega)
            · exact cpl_name (cN_lt_of hle e)
          · exact cpl_name (compareN_ord.le_lt hle (p1 z hz))
      · rw [List.mem_cons, i2 x, List.mem_cons]
        constructor
        · rintro (k | k | k)
          · exact .inl (.inl k)
          · exact .inl (.inr k)
          · exact .inr k
        · rintro ((k | k) | k)
          · exact .inl k
          · exact .inr (.inl k)
          · exact .inr (.inr k)
    · rename_i hle
      have hlt := cN_not hle
      obtain ⟨i1, i2⟩ := rwv_spec (s :: l) t h h8 p2 fun x hx => ht x (List.mem_cons_of_mem _ hx)
      refine ⟨List.pairwise_cons.2 ⟨fun x hx => ?_, i1⟩, fun x => ?_⟩
      · rcases (i2 x).1 hx with k | ⟨z, hz, rfl⟩
        · rcases List.mem_cons.1 k with rfl | k
          · exact cpl_name hlt
          · exact cpl_name (compareN_ord.lt_le hlt (name_le (s1 x k)))
        · exact cpl_name (p1 z hz)
      · rw [List.mem_cons, i2 x]
        constructor
        · rintro (k | k | ⟨z, hz, k⟩)
          · exact .inr ⟨y, List.mem_cons_self .., k⟩
          · exact .inl k
          · exact .inr ⟨z, List.mem_cons_of_mem _ hz, k⟩
        · rintro (k | ⟨z, hz, k⟩)
          · exact .inr (.inl k)
          · rcases List.mem_cons.1 hz with rfl | hz
            · exact .inl k
            · exact .inr (.inr ⟨z, hz, k⟩)
termination_by l t => l.length + t.length
theorem rwv_chain {z : Zone} (hv : validZ z = true) : rwv (bareZ z).sets (nxZ z) = (chZ z).sets := by
  have ho := validZ_ordered hv
  obtain ⟨h1, h2⟩ := rwv_spec (bareZ z).sets (nxZ z) (bare_ordered ho).rising.pw (bare_lt ho) (nx_rise hv) fun y hy => by obtain ⟨d, h⟩ := nx_of hv hy; exact h.type
  exact RP.ext h1 (ch_spec hv).1 fun x => by rw [h2, ch_mem hv]
/-- The reference's sum of bits. -/
def tsum (f : Nat → Bool) : Nat := (if f 1 = true then 2 else 0) + (if f 2 = true then 4 else 0) + (if f 3 = true then 8 else 0) + (if f 4 = true then 16 else 0) + (if f 5 = true then 32 else 0) + (if f 6 = true then 64 else 0) + (if f 7 = true then 128 else 0)
theorem tsum_le (f : Nat → Bool) : tsum f ≤ 254 := by
  unfold tsum
  repeat' split
  all_goals omega
theorem tsum_congr {f g : Nat → Bool} (h : ∀ t, 1 ≤ t → t ≤ 7 → f t = g t) : tsum f = tsum g := by
  unfold tsum
  rw [h 1 (by omega) (by omega), h 2 (by omega) (by omega), h 3 (by omega) (by omega), h 4 (by omega) (by omega), h 5 (by omega) (by omega), h 6 (by omega) (by omega), h 7 (by omega) (by omega)]
theorem tsum_add {f g : Nat → Bool} {t : Nat} (h1 : 1 ≤ t) (h7 : t ≤ 7) (hf : f t = false) (hg : ∀ u, g u = (f u || u == t)) : tsum g = tsum f + 2 ^ t := by
  have e : t = 1 ∨ t = 2 ∨ t = 3 ∨ t = 4 ∨ t = 5 ∨ t = 6 ∨ t = 7 := by omega
  unfold tsum
  rcases e with rfl | rfl | rfl | rfl | rfl | rfl | rfl <;> simp [hg, hf] <;> omega
theorem bits_sum : ∀ h < 512, h % 2 = 0 → 256 ≤ h → h = tsum (fun t => h.testBit t) + 256 := by decide +kernel
/-- A set that counts for the bits of its name. -/
def ctd (y : Zone) (s : Signed) : Bool := ownB s.set.type (spec (highest y) s.set.name) || s.set.type == 2
def fT (y : Zone) (l : List Signed) (n : Bs) (t : Nat) : Bool := l.any fun s => (named n s && ctd y s) && s.set.type.toNat == t
theorem fT_snoc {y : Zone} {l : List Signed} {k : Nat} {s : Signed} (hk : l[k]? = some s) (n : Bs) (t : Nat) : fT y (l.take (k + 1)) n t = (fT y (l.take k) n t || ((named n s && ctd y s) && s.set.type.toNat == t)) := by
  unfold fT; rw [take_snoc hk, List.any_append]; simp
theorem fT_skip {y : Zone} {l : List Signed} {k : Nat} {s : Signed} (hk : l[k]? = some s) {n : Bs} (h : (named n s && ctd y s) = false) : tsum (fT y (l.take (k + 1)) n) = tsum (fT y (l.take k) n) :=
  tsum_congr fun t _ _ => by rw [fT_snoc hk, h]; simp
theorem fT_add {y : Zone} {l : List Signed} (hr : RP l) {k : Nat} {s : Signed} (hk : l[k]? = some s) (ht : 1 ≤ s.set.type ∧ s.set.type < 8) (hpos : ∀ x ∈ l, 1 ≤ x.set.type) (hc : ctd y s = true) :
    tsum (fT y (l.take (k + 1)) s.set.name) = tsum (fT y (l.take k) s.set.name) + 2 ^ s.set.type.toNat := by
  have hn : named s.set.name s = true := by simp [named]
  refine tsum_add (by omega) (by omega) ?_ fun u => ?_
  · rw [← Bool.not_eq_true]
    intro h
    obtain ⟨x, hx, hp⟩ := List.any_eq_true.1 h
    simp only [named, Bool.and_eq_true, beq_iff_eq] at hp
    obtain ⟨j, hj⟩ := List.getElem?_of_mem hx
    have hjl := (List.getElem?_eq_some_iff.1 hj).1
    rw [List.length_take] at hjl
    rw [List.getElem?_take] at hj
    rw [if_pos (by omega)] at hj
    have hxm := List.mem_of_getElem? hj
    have hx1 := hpos x hxm
    have hpl : x.place = s.place := by
      show (x.set.name, x.set.type) = (s.set.name, s.set.type)
      rw [hp.1.1, show x.set.type = s.set.type by omega]
    have := place_inj hr hj hk hpl
    omega
  · rw [fT_snoc hk, hn, hc, Bool.and_self, Bool.true_and]
    congr 1
    rw [Bool.eq_iff_iff]; simp; omega
theorem bits_eq {z : Zone} (hv : validZ z = true) {n : Bs} (hn : n ∈ nsZ z) : hasN9 (bareZ z) n = ((tsum (fT (bareZ z) (bareZ z).sets n) + 256 : Nat) : Int) := by
  have ho := validZ_ordered hv
  obtain ⟨h, e1, e2, e3, e4, e5⟩ := has9_nat (y := bareZ z) (fun s hs => ⟨(setB_type (ho.set s (bare_mem.1 hs).1)).1, bare_lt ho s hs⟩) n
  rw [e1, bits_sum h e2 e4 e3]
  congr 2
  refine tsum_congr fun t t1 t7 => ?_
  rw [e5]
  unfold ownT
  rw [show (t == 8) = false by simp; omega, Bool.false_or]
  have hcase : (∀ s : Signed, named n s = true → ctd (bareZ z) s = true) ∧ (!(n == (bareZ z).apex) && hasT (bareZ z).sets n 2) = false ∨
      (∀ s : Signed, named n s = true → ctd (bareZ z) s = (s.set.type != 1)) ∧ (!(n == (bareZ z).apex) && hasT (bareZ z).sets n 2) = true := by
    have hcut : ∀ s : Signed, named n s = true → spec (highest (bareZ z)) s.set.name = spec (highest z) n := fun s h => by
      have : s.set.name = n := by simpa [named] using h
      rw [this, bare_spec ho]
    have h2 : hasT (bareZ z).sets n 2 = hasS (chZ z).sets ⟨n, 2⟩ := ch_hasT hv n 2 (by omega)
    rcases spec_cases ho n with ⟨s1, s2⟩ | ⟨s1, s2, _⟩
    · refine .inl ⟨fun s h => by unfold ctd ownB; rw [hcut s h, s1]; rfl, ?_⟩
      by_cases ea : n = z.apex
      · rw [show (n == (bareZ z).apex) = true from (by simpa using ea : (n == z.apex) = true)]; rfl
      · have hk := has_cut (z := chZ z) (n := n) ea
        rw [ch_cuts hv] at hk
        have : hasS (chZ z).sets ⟨n, 2⟩ = false := by
          rw [← Bool.not_eq_true]; intro k
          have := s2 n (hk.1 k)
          rw [under_self] at this; cases this
        rw [h2, this, Bool.and_false]
    · have e := ns_cut hv hn s1 s2
      have hne : n ≠ z.apex := by rw [e]; exact (cut_ne ho s1).2.1
      have hk := has_cut (z := chZ z) (n := n) hne
      rw [ch_cuts hv] at hk
      refine .inr ⟨fun s h => ?_, ?_⟩
      · unfold ctd ownB
        rw [hcut s h, ← e, valid_bne (ns_set hv hn).1]
        cases h2 : (s.set.type == 2) with
        | true =>
          have : s.set.type = 2 := by simpa using h2
          rw [this]; rfl
        | false => rw [bne, h2]; simp
      · rw [h2, hk.2 (e ▸ s1), show (n == (bareZ z).apex) = false from (by simpa using hne : (n == z.apex) = false)]; rfl
  unfold fT hasT
  rcases hcase with ⟨c1, c2⟩ | ⟨c1, c2⟩
  · rw [show (!(n == (bareZ z).apex) && (bareZ z).sets.any fun s => named n s && s.set.type.toNat == 2) = false from c2]
    simp only [Bool.and_false, Bool.not_false, Bool.and_true]
    congr 1
    funext s
    cases hs : named n s with
    | false => simp
    | true => rw [c1 s hs]; simp
  · rw [show (!(n == (bareZ z).apex) && (bareZ z).sets.any fun s => named n s && s.set.type.toNat == 2) = true from c2]
    simp only [Bool.and_true]
    by_cases e1 : t = 1
    · subst e1
      rw [show ((1 : Nat) == 1) = true from rfl, Bool.not_true, Bool.and_false]
      symm
      rw [List.any_eq_false]
      intro s hs h
      simp only [Bool.and_eq_true, beq_iff_eq] at h
      rw [c1 s h.1.1] at h
      have := (setB_type (ho.set s (bare_mem.1 hs).1)).1
      have h1 : s.set.type = 1 := by omega
      rw [h1] at h
      exact absurd h.1.2 (by decide)
    · rw [show (t == 1) = false by simpa using e1, Bool.not_false, Bool.and_true]
      congr 1
      funext s
      cases hs : named n s with
      | false => simp
      | true =>
        rw [c1 s hs]
        cases ht : (s.set.type.toNat == t) with
        | false => simp
        | true =>
          have : s.set.type.toNat = t := by simpa using ht
          have h1 : (s.set.type != 1) = true := by simp; omega
          rw [h1]; rfl
end NP

/-
  Law 09's some, reference 09's Belongs, life, on plain data.
-/
set_option linter.unusedSimpArgs false
set_option linter.unusedVariables false
set_option maxRecDepth 100000
namespace NP
open NQ Go
def belR (z : Zone) (q : Quest) : Bool :=
  !(!underN q.name z.apex || (q.name == z.apex && q.type == 6)) && (cutOfR z q.name == [] || (cutOfR z q.name == q.name && (q.type == 6 || q.type == 8)))
theorem bel_of {z : Zone} (hv : validZ z = true) (hlen : z.sets.length ≤ 10000) {q : Quest} (hq : questB q = true) (h : belR z q = true) : Bel z q ∧ belongsB (chZ z) q = true := by
  have hc := (chain_small hv hlen).2
  obtain ⟨hn, _, _⟩ := questB_name hq
  unfold belR at h
  rw [Bool.and_eq_true, Bool.not_eq_true', Bool.or_eq_false_iff, Bool.not_eq_false'] at h
  obtain ⟨⟨h1, h2⟩, h3⟩ := h
  have h2' : ¬ (q.name = z.apex ∧ q.type = 6) := fun ⟨a, b⟩ => by rw [a, b] at h2; simp at h2
  rw [cutOf_eq hv] at h3
  refine ⟨⟨h1, h2', ?_⟩, ?_⟩
  · rcases spec_cases (validZ_ordered hv) q.name with ⟨s1, s2⟩ | ⟨s1, s2, _⟩
    · exact .inl s2
    · right
      rw [Bool.or_eq_true, Bool.and_eq_true, beq_iff_eq, beq_iff_eq] at h3
      rcases h3 with h3 | ⟨h3, h4⟩
      · exact absurd h3 (cut_ne (validZ_ordered hv) s1).1
      · rw [h3] at s1; exact ⟨s1, h4⟩
  · unfold belongsB
    rw [show (chZ z).apex = z.apex from rfl, if_neg (by rw [h2]; decide), cutR_eq hc hn h1, if_neg (by simp), ch_cutOf hv hlen]
    rw [Bool.not_not]; exact h3
end NP
namespace Go.Proofs.YtjecmfajdofamaaGreatDoor
open NQ Go NP Go.RowKit

theorem belongsR_fn (z : Zone) (q : Quest) (hv : validZ z = true) (hq : validN q.name = true) : NQ.Fn cx 34 [.agg (zoneD z), .agg (questD q)] (.d (.bool (belR z q))) [] := by
  have ho := validZ_ordered hv
  have hfew := ho.few
  refine fn_of_vc tyOk mixed Tryz.func34 (by kernel_rfl) rfl (Nat.le_of_ble_eq_true rfl) ?_; conv => whnf
  repeat' (first
    | (refine ⟨_, _, RIn_fn q.name z.apex (valid_len hq) (valid_len ho.apex), ?_⟩; conv => whnf)
    | (refine ⟨_, _, cutOf_fn z q.name (by omega) ho.name hq, ?_⟩; conv => whnf)
    | (refine bcase_intro (fun h => ?_) (fun h => ?_) <;> (rw [h]; conv => whnf))
    | fail)
  all_goals first
    | exact (tf_contra (b := q.type == 6) (by assumption) (by assumption)).elim
    | (refine ret_data rfl ?_; show AV.d (D.bool false) = _; (try simp only [List.length_map] at *); simp only [belR, *, if_true, if_false, Bool.false_eq_true, Bool.not_true, Bool.not_false, Bool.not_not, Bool.true_or, Bool.or_true, Bool.false_or, Bool.or_false, Bool.and_true, Bool.true_and, Bool.false_and, Bool.and_false]; done)
    | (refine ret_data rfl ?_; show AV.d (D.bool true) = _; (try simp only [List.length_map] at *); simp only [belR, *, if_true, if_false, Bool.false_eq_true, Bool.not_true, Bool.not_false, Bool.not_not, Bool.true_or, Bool.or_true, Bool.false_or, Bool.or_false, Bool.and_true, Bool.true_and, Bool.false_and, Bool.and_false]; done)
    | (refine ret_data rfl ?_; show AV.d (D.bool _) = _; simp only [belR, *, if_true, if_false, Bool.false_eq_true, Bool.not_true, Bool.not_false, Bool.not_not, Bool.true_or, Bool.or_true, Bool.false_or, Bool.or_false, Bool.and_true, Bool.true_and, Bool.false_and, Bool.and_false]; done)
    | fail
end Go.Proofs.YtjecmfajdofamaaGreatDoor

/-
  Reference 09's life and Chain, on plain data.
-/
set_option linter.unusedSimpArgs false
set_option linter.unusedVariables false
set_option maxRecDepth 100000
namespace NP
open NQ Go
theorem own_map {y : Zone} (ho : Ordered y) : ownL y = y.sets.map fun s => ownB s.set.type (spec (highest y) s.set.name) := by
  unfold ownL
  rw [behind_eq ho, zip_eq ho, List.map_map]
  rfl
theorem life_go : ∀ (l : List Signed) (m : Int) (b : Int), (∀ s ∈ l, s.set.type = 4 → ((s.set.data[0]?).getD zeroDt).m = m) → (b = m ∨ ∃ s ∈ l, s.set.type = 4) →
    l.foldl (fun b s => if (s.set.type == 4) = true then ((s.set.data[0]?).getD zeroDt).m else b) b = m
  | [], m, b, _, h => by
    rcases h with h | ⟨s, hs, _⟩
    · exact h
    · cases hs
  | s :: t, m, b, hall, h => by
    rw [List.foldl_cons]
    refine life_go t m _ (fun x hx => hall x (List.mem_cons_of_mem _ hx)) ?_
    split
    · rename_i h4
      exact .inl (hall s (List.mem_cons_self ..) (by simpa using h4))
    · rename_i h4
      rcases h with h | ⟨x, hx, hx4⟩
      · exact .inl h
      · rcases List.mem_cons.1 hx with rfl | hx
        · rw [hx4] at h4; exact absurd rfl h4
        · exact .inr ⟨x, hx, hx4⟩
/-- The life of next sets is that of the start of the zone. -/
theorem life_start {z : Zone} (hv : validZ z = true) {s : Signed} (hs : s ∈ z.sets) (hp : s.place = (z.apex, 4)) {d : Datum} (hd : s.set.data[0]? = some d) : lifeN (bareZ z).sets = d.m := by
  have ho := validZ_ordered hv
  have V := val_iff.1 hv
  have e4 : s.set.type = 4 := congrArg Prod.snd hp
  refine life_go _ _ _ (fun x hx h4 => ?_) (.inr ⟨s, bare_mem.2 ⟨hs, by rw [e4]; decide⟩, e4⟩)
  have hxz := (bare_mem.1 hx).1
  have hf := V.fit x hxz
  rw [h4] at hf
  have hxa : x.set.name = z.apex := by
    have : (x.set.name == z.apex) = true := hf
    simpa using this
  have : x = s := RP.uniq ho.rising.pw hxz hs (by rw [hp]; show (x.set.name, x.set.type) = _; rw [hxa, h4])
  rw [this, hd]; rfl
/-- A set that counts has a name of the chain. -/
theorem ctd_ns {z : Zone} (hv : validZ z = true) {s : Signed} (hs : s ∈ (bareZ z).sets) (hc : ctd (bareZ z) s = true) : s.set.name ∈ nsZ z := by
  have ho := validZ_ordered hv
  have hr := cut_rule hv (bare_mem.1 hs).1
  unfold ctd at hc
  rw [bare_spec ho] at hc
  rcases spec_cases ho s.set.name with ⟨s1, _⟩ | ⟨s1, s2, _⟩
  · exact (ns_iff hv _).2 ⟨s, hs, rfl, .inl s1⟩
  · by_cases e : spec (highest z) s.set.name = s.set.name
    · exact (ns_iff hv _).2 ⟨s, hs, rfl, .inr e⟩
    · exfalso
      have hne := (cut_ne ho s1).1
      unfold cutBad at hr
      rw [if_neg (by simpa using hne), if_neg (by simpa using e)] at hr
      have ht : s.set.type = 1 := by simpa using hr
      unfold ownB at hc
      rw [ht, show (spec (highest z) s.set.name == []) = false by simpa using hne] at hc
      exact absurd hc (by decide)
/-- Where the names of the sets that count stand. -/
theorem ctd_at {z : Zone} (hv : validZ z = true) {i j : Nat} {s x : Signed} (hs : (bareZ z).sets[i]? = some s) (hj : (nsZ z)[j]? = some s.set.name) {u : Nat} (hu : i ≤ u) (hx : (bareZ z).sets[u]? = some x) (hc : ctd (bareZ z) x = true) :
    ∃ m, j ≤ m ∧ (nsZ z)[m]? = some x.set.name := by
  obtain ⟨m, hm⟩ := List.getElem?_of_mem (ctd_ns hv (List.mem_of_getElem? hx) hc)
  refine ⟨m, ?_, hm⟩
  by_cases h : j ≤ m
  · exact h
  · exfalso
    have h1 := asc_lt (ns_asc hv) hm hj (by omega)
    have hp := rising_pw (bare_ordered (validZ_ordered hv)).rising
    have h2 : compareN s.set.name x.set.name ≤ 0 := by
      rcases Nat.lt_or_eq_of_le hu with k | k
      · obtain ⟨a1, a2⟩ := List.getElem?_eq_some_iff.1 hs
        obtain ⟨b1, b2⟩ := List.getElem?_eq_some_iff.1 hx
        have := List.pairwise_iff_getElem.1 hp i u a1 b1 k
        rwa [a2, b2] at this
      · subst k; rw [hs] at hx; cases hx; rw [cN_self]; omega
    have := compareN_ord.anti s.set.name x.set.name
    omega
def fzQ : Nat → List Nat
  | 8 => [55555]
  | 17 => [66666]
  | 18 => [55555]
  | 24 => [66666]
  | 31 => [66666]
  | _ => []
end NP
namespace Go.Proofs.YtjecmfajdofamaaGreatDoor
open NQ Go NP Go.RowKit

theorem life9_fn {z : Zone} (hv : validZ z = true) : NQ.Fn cx 86 [.agg (zoneD z)] (.d (.int .i64 (lifeN (bareZ z).sets))) [] := by
  have ho := validZ_ordered hv
  have hfew := ho.few
  refine fn_of_vc tyOk mixed Tryz.func86 (by kernel_rfl) rfl (Nat.le_of_ble_eq_true rfl) ?_; conv => whnf
  obtain ⟨k, s, hk, hs, hp⟩ := at_is (val_iff.1 hv).start
  have fA := at_fn z ⟨z.apex, 4⟩ (by omega)
  rw [hk] at fA
  obtain ⟨d, hd⟩ := setB_data (ho.set s (List.mem_of_getElem? hs))
  have e := life_start hv (List.mem_of_getElem? hs) hp (d := d) (by rw [hd])
  rw [e]
  (refine ⟨(by kernel_rfl : planOk _ _ = true), ?_⟩; conv => whnf)
  (refine ⟨_, _, fA, ?_⟩; conv => whnf)
  refine ⟨Int.natCast_nonneg k, signedD s, map_get hs, ?_⟩
  conv => whnf
  refine ⟨by decide, datumD d, by (show (s.set.data.map datumD)[(0 : Int).toNat]? = _; simp [hd]), ?_⟩
  conv => whnf
  exact ret_data rfl rfl
theorem bit9i_fn (t : Int) (h : 0 ≤ t) : NQ.Fn cx 78 [.int .i64 t] (.d (.int .i64 (bitN t))) [] := by
  obtain ⟨n, rfl⟩ : ∃ n : Nat, t = n := ⟨t.toNat, by omega⟩
  exact bit9_fn n
noncomputable def cxQ : Cx := { cx with bld := [115, 146, 152] }
theorem tyQ : TyOk cxQ := tyOk
theorem mixedQ : cxQ.P.follows .mixedOrders = true := mixed
def stQ0 (z b : Zone) (ns : List Bs) (os : List Bool) : St := ⟨[(1, .ptr 1 0), (2, .ptr 2 0), (4, .ptr 4 0), (5, .d (.slice 1 (ns.map strD))), (6, .d (.slice 1 (os.map boolD)))], [(1, .box ((zoneD z).map .d)), (2, .box [.d (.str []), .nil 5]), (4, .box ((zoneD b).map .d))]⟩
def stQ1 (z b : Zone) (ns : List Bs) (bits : List Int) : St := ⟨[(1, .ptr 1 0), (2, .ptr 2 0), (4, .ptr 4 0), (5, .d (.slice 1 (ns.map strD))), (7, .own 35)], [(1, .box ((zoneD z).map .d)), (2, .box [.d (.str []), .nil 5]), (4, .box ((zoneD b).map .d)), (35, .row 3 1 (bits.map intD) true)]⟩
set_option maxHeartbeats 4000000 in
theorem rchain_head {z : Zone} (hv : validZ z = true) (hlen : z.sets.length ≤ 10000)
    (rest : ∀ st, Weak cxQ st (stQ0 z (bareZ z) (nsZ z) (ownL (bareZ z))) → vc cxQ Tryz.f27.ntmps fzQ (tailC 6 ((Tryz.f27.body).getD .skip)) (fnQ cxQ Tryz.f27.results.toList (.tuple [.agg ((zoneD (chZ z)).map .d), .d (.int .i64 0)]) []) st) :
    NQ.Fn cx 27 [.agg (zoneD z)] (.tuple [.agg ((zoneD (chZ z)).map .d), .d (.int .i64 0)]) [] := by
  have ho := validZ_ordered hv
  have hbv := bare_valid hv
  have hob := bare_ordered ho
  have hbl : (bareZ z).sets.length ≤ z.sets.length := List.length_filter_le _ _
  have hnl : (nsZ z).length ≤ (bareZ z).sets.length := names_le (bareZ z)
  have fV := rvalid_fn z (by omega)
  rw [hv] at fV
  have fB := bare_fn z (by omega)
  have fN : NQ.Fn cx 83 [.agg (zoneD (bareZ z))] (.d (.slice 1 ((nsZ z).map strD))) [] := namesOf_fn (bareZ z) hbv
  have fO := own_fn (bareZ z) (by omega) hob.name
  generalize bareZ z = b at *
  generalize nsZ z = ns at *
  show NQ.Fn cxQ _ _ _ _
  refine fn_of_vcz fzQ tyQ mixedQ Tryz.func27 (by kernel_rfl) rfl (Nat.le_of_ble_eq_true rfl) ?_
  conv => whnf
  (refine ⟨_, _, fV, ?_⟩; conv => whnf)
  (refine ⟨_, _, fB, ?_⟩; conv => whnf)
  (refine ⟨_, _, fN, ?_⟩; conv => whnf)
  have el : decide (IntKind.i64.wrap (((b.sets.map signedD).length : Int) + ((ns.map strD).length : Int)) > 20000) = false := by
    simp only [List.length_map]
    rw [wrap_i64 (by omega) (by omega)]
    simp; omega
  rw [el]
  conv => whnf
  (refine ⟨_, _, fO, ?_⟩; conv => whnf)
  exact rest _ (Weak.keep ⟨⟨rfl, rfl⟩, ⟨rfl, rfl⟩, ⟨rfl, rfl⟩, ⟨rfl, rfl⟩, ⟨rfl, rfl⟩, trivial⟩ ⟨⟨rfl, rfl⟩, ⟨rfl, rfl⟩, ⟨rfl, rfl⟩, trivial⟩)
def bitsOk (b : Zone) (l : List Signed) (ns : List Bs) (bits : List Int) : Prop := bits.length = ns.length ∧ ∀ (j : Nat) n, ns[j]? = some n → bits[j]? = some ((tsum (fT b l n) : Nat) : Int)
set_option maxHeartbeats 4000000 in
theorem rchain_bits {z : Zone} (hv : validZ z = true) (hlen : z.sets.length ≤ 10000) (Q : AV)
    (rest : ∀ bits st, bitsOk (bareZ z) (bareZ z).sets (nsZ z) bits → Weak cxQ st (stQ1 z (bareZ z) (nsZ z) bits) → vc cxQ Tryz.f27.ntmps fzQ (tailC 9 ((Tryz.f27.body).getD .skip)) (fnQ cxQ Tryz.f27.results.toList Q []) st)
    (st : St) (hw : Weak cxQ st (stQ0 z (bareZ z) (nsZ z) (ownL (bareZ z)))) :
    vc cxQ Tryz.f27.ntmps fzQ (tailC 6 ((Tryz.f27.body).getD .skip)) (fnQ cxQ Tryz.f27.results.toList Q []) st := by
  have ho := validZ_ordered hv
  have hob := bare_ordered ho
  have hbl : (bareZ z).sets.length ≤ z.sets.length := List.length_filter_le _ _
  have hnl : (nsZ z).length ≤ (bareZ z).sets.length := names_le (bareZ z)
  have hown := own_map hob
  have hat : ∀ (i : Nat) s, (bareZ z).sets[i]? = some s → ctd (bareZ z) s = true → ∃ j, (nsZ z)[j]? = some s.set.name ∧ ∀ (u : Nat) x, i ≤ u → (bareZ z).sets[u]? = some x → ctd (bareZ z) x = true → ∃ m, j ≤ m ∧ (nsZ z)[m]? = some x.set.name := fun i s hs hc => by
    obtain ⟨j, hj⟩ := List.getElem?_of_mem (ctd_ns hv (List.mem_of_getElem? hs) hc)
    exact ⟨j, hj, fun u x hu hx hc => ctd_at hv hs hj hu hx hc⟩
  have hset : ∀ s ∈ (bareZ z).sets, 1 ≤ s.set.type ∧ s.set.type < 8 := fun s hs => ⟨(setB_type (ho.set s (bare_mem.1 hs).1)).1, bare_lt ho s hs⟩
  have hRP := hob.rising.pw
  have hA := ns_asc hv
  have hobd : ∀ (i : Nat) s, (bareZ z).sets[i]? = some s → (ownL (bareZ z))[i]? = some (ownB s.set.type (spec (highest (bareZ z)) s.set.name)) := fun i s hs => by
    rw [hown, List.getElem?_map, hs]; rfl
  generalize ownL (bareZ z) = os at *
  generalize nsZ z = ns at *
  generalize hb : bareZ z = b at *
  clear hown
  have hnm : (ns.map strD).length = ns.length := List.length_map _
  conv => whnf
  refine ⟨_, hw, ?_⟩
  conv => whnf
  refine ⟨by omega, .inl rfl, by omega, by (simp only [List.length_map]; omega), by (simp only [List.length_map]; omega), ?_⟩
  conv => whnf
  refine ⟨Nat × Nat × List Int, fun x => ⟨[(1, .ptr 1 0), (2, .ptr 2 0), (4, .ptr 4 0), (5, .d (.slice 1 (ns.map strD))), (6, .d (.slice 1 (os.map boolD))), (7, .own 35), (8, .d (.int .i64 x.2.1)), (9, .d (.int .i64 x.1))],
      [(1, .box ((zoneD z).map .d)), (2, .box [.d (.str []), .nil 5]), (4, .box ((zoneD b).map .d)), (35, .row 3 1 (x.2.2.map intD) true)]⟩,
    fun x => x.1 ≤ b.sets.length ∧ bitsOk b (b.sets.take x.1) ns x.2.2 ∧ x.2.1 ≤ ns.length ∧ ∀ (u : Nat) s, x.1 ≤ u → b.sets[u]? = some s → ctd b s = true → ∃ m, x.2.1 ≤ m ∧ ns[m]? = some s.set.name,
    fun x => b.sets.length - x.1, ⟨(0, 0, List.replicate ns.length 0), ⟨by simp, ⟨by simp, fun j n hj => ?_⟩, by simp, fun u s _ hu hc => ?_⟩,
      Weak.keep ⟨⟨rfl, rfl⟩, ⟨rfl, rfl⟩, ⟨rfl, rfl⟩, ⟨rfl, rfl⟩, ⟨rfl, rfl⟩, ⟨rfl, rfl⟩, ⟨rfl, rfl⟩, ⟨rfl, rfl⟩, trivial⟩ ⟨⟨rfl, rfl⟩, ⟨rfl, rfl⟩, ⟨rfl, rfl⟩, ⟨by (show some (Blk.row _ _ (List.replicate ((ns.map strD).length : Int).toNat _) true) = some (Blk.row _ _ _ true); simp [intD]; done), rfl⟩, trivial⟩⟩, ?_⟩
  · have := (List.getElem?_eq_some_iff.1 hj).1
    rw [List.getElem?_replicate, if_pos this]
    rfl
  · obtain ⟨j, hj, _⟩ := hat u s hu hc
    exact ⟨j, Nat.zero_le _, hj⟩
  · rintro ⟨i, k, bits⟩ ⟨hi, hok, hk, hrem⟩
    simp only at hi hok hk hrem
    obtain ⟨hbl0, hbits⟩ := hok
    conv => whnf
    refine bcase_intro (fun h1 => ?_) (fun h1 => ?_) <;> (rw [h1]; conv => whnf)
    · have hlt : i < b.sets.length := by simp at h1; omega
      obtain ⟨s, hs⟩ : ∃ s, b.sets[i]? = some s := ⟨_, List.getElem?_eq_getElem hlt⟩
      have hos := hobd i s hs
      have hctd : ctd b s = (ownB s.set.type (spec (highest b) s.set.name) || s.set.type == 2) := rfl
      have hst := hset s (List.mem_of_getElem? hs)
      generalize ownB s.set.type (spec (highest b) s.set.name) = o at hos hctd
      refine ⟨Int.natCast_nonneg i, signedD s, map_get hs, ?_⟩
      conv => whnf
      refine ⟨Int.natCast_nonneg i, boolD o, map_get hos, ?_⟩
      conv => whnf
      have skip : ctd b s = false → bitsOk b (b.sets.take (i + 1)) ns bits ∧ ∀ (u : Nat) x, i + 1 ≤ u → b.sets[u]? = some x → ctd b x = true → ∃ m, k ≤ m ∧ ns[m]? = some x.set.name := fun hc => by
        refine ⟨⟨hbl0, fun j n hj => ?_⟩, fun u x hu hx hcx => hrem u x (by omega) hx hcx⟩
        rw [fT_skip hs (by rw [hc, Bool.and_false])]
        exact hbits j n hj
      have cont : ctd b s = false → ∃ x : Nat × Nat × List Int, x = (i + 1, k, bits) := fun _ => ⟨_, rfl⟩
      have key : ctd b s = false ∨ ctd b s = true := by cases ctd b s <;> simp
      cases o with
      | true =>
        conv => whnf
        have hc : ctd b s = true := by rw [hctd]; rfl
        obtain ⟨j, hj, hlater⟩ := hat i s hs hc
        obtain ⟨m0, hm0, hm0'⟩ := hrem i s (Nat.le_refl _) hs hc
        obtain rfl : m0 = j := asc_inj hA hm0' hj
        have hjl := (List.getElem?_eq_some_iff.1 hj).1
        refine ⟨Nat, fun k' => ⟨[(1, .ptr 1 0), (2, .ptr 2 0), (4, .ptr 4 0), (5, .d (.slice 1 (ns.map strD))), (6, .d (.slice 1 (os.map boolD))), (7, .own 35), (8, .d (.int .i64 k')), (9, .d (.int .i64 i)), (10, .ptr 10 0)],
            [(1, .box ((zoneD z).map .d)), (2, .box [.d (.str []), .nil 5]), (4, .box ((zoneD b).map .d)), (10, .box ((setD s.set).map .d)), (35, .row 3 1 (bits.map intD) true)]⟩,
          fun k' => k' ≤ m0, fun k' => m0 - k', ⟨k, hm0, Weak.keep ⟨⟨rfl, rfl⟩, ⟨rfl, rfl⟩, ⟨rfl, rfl⟩, ⟨rfl, rfl⟩, ⟨rfl, rfl⟩, ⟨rfl, rfl⟩, ⟨rfl, rfl⟩, ⟨rfl, rfl⟩, ⟨rfl, rfl⟩, trivial⟩ ⟨⟨rfl, rfl⟩, ⟨rfl, rfl⟩, ⟨rfl, rfl⟩, ⟨rfl, rfl⟩, ⟨rfl, rfl⟩, trivial⟩⟩, fun k' hk' => ?_⟩
        conv => whnf
        obtain ⟨n', hn'⟩ : ∃ n', ns[k']? = some n' := ⟨_, List.getElem?_eq_getElem (by omega)⟩
        (refine ⟨(by kernel_rfl : planOk _ _ = true), ?_⟩; conv => whnf)
        refine ⟨Int.natCast_nonneg k', strD n', map_get hn', ?_⟩
        conv => whnf
        refine bcase_intro (fun h3 => ?_) (fun h3 => ?_) <;> (rw [h3]; conv => whnf)
        · have hne : k' ≠ m0 := fun e => by
            rw [e, hj] at hn'
            cases hn'
            have h3' : (!(s.set.name == s.set.name)) = true := h3
            simp at h3'
          exact ⟨k' + 1, by omega, by (show m0 - (k' + 1) < m0 - k'; omega), Weak.keep ⟨⟨rfl, rfl⟩, ⟨rfl, rfl⟩, ⟨rfl, rfl⟩, ⟨rfl, rfl⟩, ⟨rfl, rfl⟩, ⟨rfl, rfl⟩, ⟨wrap_succ (k := k') (by omega), rfl⟩, ⟨rfl, rfl⟩, ⟨rfl, rfl⟩, trivial⟩ ⟨⟨rfl, rfl⟩, ⟨rfl, rfl⟩, ⟨rfl, rfl⟩, ⟨rfl, rfl⟩, ⟨rfl, rfl⟩, trivial⟩⟩
        · have hne : n' = s.set.name := by
            have h3' : (!(n' == s.set.name)) = false := h3
            simpa using h3'
          obtain rfl : k' = m0 := asc_inj hA (hne ▸ hn') hj
          have hbk := hbits k' _ hj
          (refine ⟨(by kernel_rfl : cleanOk _ = true), ?_⟩; conv => whnf)
          have hgk : (bits.map intD)[k']? = some (intD ((tsum (fT b (b.sets.take i) s.set.name) : Nat) : Int)) := map_get hbk
          have hbl1 : k' < (bits.map intD).length := by rw [List.length_map]; omega
          refine ⟨Int.natCast_nonneg k', hbl1, ?_⟩
          conv => whnf
          refine ⟨_, hgk, ?_⟩
          conv => whnf
          (refine ⟨_, _, bit9i_fn s.set.type (by omega), ?_⟩; conv => whnf)
          (repeat (refine ⟨by kernel_rfl, ?_⟩)); conv => whnf
          refine ⟨Int.natCast_nonneg k', hbl1, ?_⟩
          conv => whnf
          refine ⟨_, hgk, ?_⟩
          conv => whnf
          (repeat (refine ⟨by kernel_rfl, ?_⟩)); conv => whnf
          have hval : IntKind.i64.wrap (((tsum (fT b (b.sets.take i) s.set.name) : Nat) : Int) + bitN s.set.type) = ((tsum (fT b (b.sets.take (i + 1)) s.set.name) : Nat) : Int) := by
            have h4 := tsum_le (fT b (b.sets.take (i + 1)) s.set.name)
            rw [(bitN_nat (t := s.set.type) (by omega) (by omega)).1]
            rw [fT_add hRP hs hst (fun x hx => (hset x hx).1) hc] at h4 ⊢
            generalize 2 ^ s.set.type.toNat = pw at h4 ⊢
            generalize tsum (fT b (b.sets.take i) s.set.name) = sm at h4 ⊢
            rw [wrap_i64 (by omega) (by omega)]
            omega
          refine ⟨(i + 1, k', bits.set k' ((tsum (fT b (b.sets.take (i + 1)) s.set.name) : Nat) : Int)), ⟨hlt, ⟨by rw [List.length_set]; exact hbl0, fun u n hu => ?_⟩, by (show k' ≤ ns.length; omega), fun u x hu hx hcx => hlater u x (by omega) hx hcx⟩, by (show b.sets.length - (i + 1) < b.sets.length - i; omega),
            Weak.keep ⟨⟨rfl, rfl⟩, ⟨rfl, rfl⟩, ⟨rfl, rfl⟩, ⟨rfl, rfl⟩, ⟨rfl, rfl⟩, ⟨rfl, rfl⟩, ⟨rfl, rfl⟩, ⟨wrap_succ (k := i) (by omega), rfl⟩, trivial⟩ ⟨⟨rfl, rfl⟩, ⟨rfl, rfl⟩, ⟨rfl, rfl⟩, ⟨?_, rfl⟩, trivial⟩⟩
          · show (bits.set k' _)[u]? = _
            rw [List.getElem?_set]
            by_cases e : k' = u
            · subst e
              rw [hj] at hu
              cases hu
              rw [if_pos rfl, if_pos (by omega)]
            · rw [if_neg e]
              have hne2 : n ≠ s.set.name := fun h => e (asc_inj hA hj (h ▸ hu))
              rw [fT_skip hs (by
                have : named n s = false := by unfold named; simpa using fun h => hne2 h.symm
                rw [this]; rfl)]
              exact hbits u n hu
          · rw [← hval, List.map_set]
            rfl
      | false =>
        conv => whnf
        refine bcase_intro (fun h2 => ?_) (fun h2 => ?_) <;> (rw [h2]; conv => whnf)
        · have hc : ctd b s = false := by
            rw [hctd, Bool.false_or, ← Bool.not_eq_true]
            intro e
            have h2' : (s.set.type != 2) = true := h2
            rw [bne, e] at h2'
            cases h2'
          obtain ⟨k1, k2⟩ := skip hc
          exact ⟨(i + 1, k, bits), ⟨hlt, k1, hk, k2⟩, by (show b.sets.length - (i + 1) < b.sets.length - i; omega), Weak.keep ⟨⟨rfl, rfl⟩, ⟨rfl, rfl⟩, ⟨rfl, rfl⟩, ⟨rfl, rfl⟩, ⟨rfl, rfl⟩, ⟨rfl, rfl⟩, ⟨rfl, rfl⟩, ⟨wrap_succ (by omega), rfl⟩, trivial⟩ ⟨⟨rfl, rfl⟩, ⟨rfl, rfl⟩, ⟨rfl, rfl⟩, ⟨rfl, rfl⟩, trivial⟩⟩
        · have hc : ctd b s = true := by
            rw [hctd, Bool.false_or]
            have h2' : (s.set.type != 2) = false := h2
            rw [bne] at h2'
            simpa using h2'
          obtain ⟨j, hj, hlater⟩ := hat i s hs hc
          obtain ⟨m0, hm0, hm0'⟩ := hrem i s (Nat.le_refl _) hs hc
          obtain rfl : m0 = j := asc_inj hA hm0' hj
          have hjl := (List.getElem?_eq_some_iff.1 hj).1
          refine ⟨Nat, fun k' => ⟨[(1, .ptr 1 0), (2, .ptr 2 0), (4, .ptr 4 0), (5, .d (.slice 1 (ns.map strD))), (6, .d (.slice 1 (os.map boolD))), (7, .own 35), (8, .d (.int .i64 k')), (9, .d (.int .i64 i)), (10, .ptr 10 0)],
              [(1, .box ((zoneD z).map .d)), (2, .box [.d (.str []), .nil 5]), (4, .box ((zoneD b).map .d)), (10, .box ((setD s.set).map .d)), (35, .row 3 1 (bits.map intD) true)]⟩,
            fun k' => k' ≤ m0, fun k' => m0 - k', ⟨k, hm0, Weak.keep ⟨⟨rfl, rfl⟩, ⟨rfl, rfl⟩, ⟨rfl, rfl⟩, ⟨rfl, rfl⟩, ⟨rfl, rfl⟩, ⟨rfl, rfl⟩, ⟨rfl, rfl⟩, ⟨rfl, rfl⟩, ⟨rfl, rfl⟩, trivial⟩ ⟨⟨rfl, rfl⟩, ⟨rfl, rfl⟩, ⟨rfl, rfl⟩, ⟨rfl, rfl⟩, ⟨rfl, rfl⟩, trivial⟩⟩, fun k' hk' => ?_⟩
          conv => whnf
          obtain ⟨n', hn'⟩ : ∃ n', ns[k']? = some n' := ⟨_, List.getElem?_eq_getElem (by omega)⟩
          (refine ⟨(by kernel_rfl : planOk _ _ = true), ?_⟩; conv => whnf)
          refine ⟨Int.natCast_nonneg k', strD n', map_get hn', ?_⟩
          conv => whnf
          refine bcase_intro (fun h3 => ?_) (fun h3 => ?_) <;> (rw [h3]; conv => whnf)
          · have hne : k' ≠ m0 := fun e => by
              rw [e, hj] at hn'
              cases hn'
              have h3' : (!(s.set.name == s.set.name)) = true := h3
              simp at h3'
            exact ⟨k' + 1, by omega, by (show m0 - (k' + 1) < m0 - k'; omega), Weak.keep ⟨⟨rfl, rfl⟩, ⟨rfl, rfl⟩, ⟨rfl, rfl⟩, ⟨rfl, rfl⟩, ⟨rfl, rfl⟩, ⟨rfl, rfl⟩, ⟨wrap_succ (k := k') (by omega), rfl⟩, ⟨rfl, rfl⟩, ⟨rfl, rfl⟩, trivial⟩ ⟨⟨rfl, rfl⟩, ⟨rfl, rfl⟩, ⟨rfl, rfl⟩, ⟨rfl, rfl⟩, ⟨rfl, rfl⟩, trivial⟩⟩
          · have hne : n' = s.set.name := by
              have h3' : (!(n' == s.set.name)) = false := h3
              simpa using h3'
            obtain rfl : k' = m0 := asc_inj hA (hne ▸ hn') hj
            have hbk := hbits k' _ hj
            (refine ⟨(by kernel_rfl : cleanOk _ = true), ?_⟩; conv => whnf)
            have hgk : (bits.map intD)[k']? = some (intD ((tsum (fT b (b.sets.take i) s.set.name) : Nat) : Int)) := map_get hbk
            have hbl1 : k' < (bits.map intD).length := by rw [List.length_map]; omega
            refine ⟨Int.natCast_nonneg k', hbl1, ?_⟩
            conv => whnf
            refine ⟨_, hgk, ?_⟩
            conv => whnf
            (refine ⟨_, _, bit9i_fn s.set.type (by omega), ?_⟩; conv => whnf)
            (repeat (refine ⟨by kernel_rfl, ?_⟩)); conv => whnf
            refine ⟨Int.natCast_nonneg k', hbl1, ?_⟩
            conv => whnf
            refine ⟨_, hgk, ?_⟩
            conv => whnf
            (repeat (refine ⟨by kernel_rfl, ?_⟩)); conv => whnf
            have hval : IntKind.i64.wrap (((tsum (fT b (b.sets.take i) s.set.name) : Nat) : Int) + bitN s.set.type) = ((tsum (fT b (b.sets.take (i + 1)) s.set.name) : Nat) : Int) := by
              have h4 := tsum_le (fT b (b.sets.take (i + 1)) s.set.name)
              rw [(bitN_nat (t := s.set.type) (by omega) (by omega)).1]
              rw [fT_add hRP hs hst (fun x hx => (hset x hx).1) hc] at h4 ⊢
              generalize 2 ^ s.set.type.toNat = pw at h4 ⊢
              generalize tsum (fT b (b.sets.take i) s.set.name) = sm at h4 ⊢
              rw [wrap_i64 (by omega) (by omega)]
              omega
            refine ⟨(i + 1, k', bits.set k' ((tsum (fT b (b.sets.take (i + 1)) s.set.name) : Nat) : Int)), ⟨hlt, ⟨by rw [List.length_set]; exact hbl0, fun u n hu => ?_⟩, by (show k' ≤ ns.length; omega), fun u x hu hx hcx => hlater u x (by omega) hx hcx⟩, by (show b.sets.length - (i + 1) < b.sets.length - i; omega),
              Weak.keep ⟨⟨rfl, rfl⟩, ⟨rfl, rfl⟩, ⟨rfl, rfl⟩, ⟨rfl, rfl⟩, ⟨rfl, rfl⟩, ⟨rfl, rfl⟩, ⟨rfl, rfl⟩, ⟨wrap_succ (k := i) (by omega), rfl⟩, trivial⟩ ⟨⟨rfl, rfl⟩, ⟨rfl, rfl⟩, ⟨rfl, rfl⟩, ⟨?_, rfl⟩, trivial⟩⟩
            · show (bits.set k' _)[u]? = _
              rw [List.getElem?_set]
              by_cases e : k' = u
              · subst e
                rw [hj] at hu
                cases hu
                rw [if_pos rfl, if_pos (by omega)]
              · rw [if_neg e]
                have hne2 : n ≠ s.set.name := fun h => e (asc_inj hA hj (h ▸ hu))
                rw [fT_skip hs (by
                  have : named n s = false := by unfold named; simpa using fun h => hne2 h.symm
                  rw [this]; rfl)]
                exact hbits u n hu
            · rw [← hval, List.map_set]
              rfl
    · obtain rfl : i = b.sets.length := by simp at h1; omega
      rw [List.take_length] at hbits
      exact rest bits _ ⟨hbl0, hbits⟩ (Weak.keep ⟨⟨rfl, rfl⟩, ⟨rfl, rfl⟩, ⟨rfl, rfl⟩, ⟨rfl, rfl⟩, ⟨rfl, rfl⟩, trivial⟩ ⟨⟨rfl, rfl⟩, ⟨rfl, rfl⟩, ⟨rfl, rfl⟩, ⟨rfl, rfl⟩, trivial⟩)
theorem nx_get {z : Zone} (hv : validZ z = true) {bits : List Int} (hok : bitsOk (bareZ z) (bareZ z).sets (nsZ z) bits) {k : Nat} {n : Bs} (hk : (nsZ z)[k]? = some n) :
    ∃ to bv, bits[k]? = some bv ∧ (nxZ z)[k]? = some ⟨n, 8, lifeN (bareZ z).sets, [⟨to, IntKind.i64.wrap (bv + bitN 8), 0⟩]⟩ ∧ (if k + 1 < (nsZ z).length then (nsZ z)[k + 1]? = some to else to = z.apex) := by
  have hl := (List.getElem?_eq_some_iff.1 hk).1
  obtain ⟨to, hto, he, hat⟩ := nextS_at (y := bareZ z) hk
  refine ⟨to, _, hok.2 k n hk, ?_, ?_⟩
  · show (nextsR (bareZ z) (nsZ z))[k]? = _
    rw [nexts_get hl, he, bits_eq hv (List.mem_of_getElem? hk)]
    have h4 := tsum_le (fT (bareZ z) (bareZ z).sets n)
    rw [show bitN 8 = 256 from by decide, wrap_i64 (by omega) (by omega)]
    rfl
  · split
    · rename_i h
      rw [Nat.mod_eq_of_lt h] at hat; exact hat
    · rename_i h
      have e : k + 1 = (nsZ z).length := by omega
      rw [e, Nat.mod_self, ns_first hv] at hat
      exact (Option.some.inj hat).symm
set_option maxHeartbeats 4000000 in
theorem rchain_weave {z : Zone} (hv : validZ z = true) (hlen : z.sets.length ≤ 10000) (bits : List Int) (hok : bitsOk (bareZ z) (bareZ z).sets (nsZ z) bits)
    (st : St) (hw : Weak cxQ st (stQ1 z (bareZ z) (nsZ z) bits)) :
    vc cxQ Tryz.f27.ntmps fzQ (tailC 9 ((Tryz.f27.body).getD .skip)) (fnQ cxQ Tryz.f27.results.toList (.tuple [.agg ((zoneD (chZ z)).map .d), .d (.int .i64 0)]) []) st := by
  have ho := validZ_ordered hv
  have hob := bare_ordered ho
  have hbl : (bareZ z).sets.length ≤ z.sets.length := List.length_filter_le _ _
  have hnl : (nsZ z).length ≤ (bareZ z).sets.length := names_le (bareZ z)
  have hwhole := rwv_chain hv
  have hnext := fun k n hk => nx_get hv hok (k := k) (n := n) hk
  have hvb : ∀ (i : Nat) s, (bareZ z).sets[i]? = some s → validN s.set.name = true := fun i s hs => hob.name s (List.mem_of_getElem? hs)
  have hvn : ∀ (k : Nat) n, (nsZ z)[k]? = some n → validN n = true := fun k n hk => (ns_set hv (List.mem_of_getElem? hk)).1
  have hxl : (nxZ z).length = (nsZ z).length := nexts_len _ _
  have fL := life9_fn hv
  have fB := bit9_fn 8
  have hres : (⟨z.apex, (chZ z).sets⟩ : Zone) = chZ z := rfl
  generalize (chZ z).sets = whole at *
  rw [← hres]
  clear hok hres
  generalize nxZ z = nx at *
  generalize nsZ z = ns at *
  generalize bareZ z = b at *
  generalize lifeN b.sets = lf at *
  have hnm : (ns.map strD).length = ns.length := List.length_map _
  have hbm : (b.sets.map signedD).length = b.sets.length := List.length_map _
  conv => whnf
  refine ⟨_, hw, ?_⟩
  conv => whnf
  refine ⟨Nat × Nat × List Signed, fun x => ⟨[(1, .ptr 1 0), (2, .ptr 2 0), (4, .ptr 4 0), (5, .d (.slice 1 (ns.map strD))), (7, .own 35), (8, .d (.int .i64 x.1)), (11, .ptr 11 0), (12, .d (.int .i64 x.2.1))],
      [(1, .box ((zoneD z).map .d)), (2, .box [.d (.str []), .nil 5]), (4, .box ((zoneD b).map .d)), (11, .box [.d (.str z.apex), .own 200]), (35, .row 3 1 (bits.map intD) true), (200, .row 40 5 (x.2.2.map signedD))]⟩,
    fun x => x.1 ≤ ns.length ∧ x.2.1 ≤ b.sets.length ∧ x.2.2.length ≤ x.1 + x.2.1 ∧ x.2.2 ++ rwv (b.sets.drop x.2.1) (nx.drop x.1) = whole,
    fun x => ns.length - x.1, ⟨(0, 0, []), ⟨by simp, by simp, by simp, hwhole⟩,
      (Weak.promoteBox 11 1 200 5 [.d (.str z.apex), .nil 5] 40 5 rfl rfl rfl (by decide)).trans (Weak.keep ⟨⟨rfl, rfl⟩, ⟨rfl, rfl⟩, ⟨rfl, rfl⟩, ⟨rfl, rfl⟩, ⟨rfl, rfl⟩, ⟨rfl, rfl⟩, ⟨rfl, rfl⟩, ⟨rfl, rfl⟩, trivial⟩ ⟨⟨rfl, rfl⟩, ⟨rfl, rfl⟩, ⟨rfl, rfl⟩, ⟨rfl, rfl⟩, ⟨rfl, rfl⟩, ⟨rfl, rfl⟩, trivial⟩)⟩, ?_⟩
  rintro ⟨k, i0, acc0⟩ ⟨hk, hi0, hl0, hc0⟩
  simp only at hk hi0 hl0 hc0
  conv => whnf
  refine bcase_intro (fun h1 => ?_) (fun h1 => ?_) <;> (rw [h1]; conv => whnf)
  · have hlt : k < ns.length := by simp at h1; omega
    obtain ⟨n, hn⟩ : ∃ n, ns[k]? = some n := ⟨_, List.getElem?_eq_getElem hlt⟩
    obtain ⟨to, bv, hbv, hxk, hto⟩ := hnext k n hn
    have hxd : nx.drop k = ⟨n, 8, lf, [⟨to, IntKind.i64.wrap (bv + bitN 8), 0⟩]⟩ :: nx.drop (k + 1) := by
      rw [List.drop_eq_getElem_cons (by omega), (List.getElem?_eq_some_iff.1 hxk).2]
    refine ⟨Nat × List Signed, fun x => ⟨[(1, .ptr 1 0), (2, .ptr 2 0), (4, .ptr 4 0), (5, .d (.slice 1 (ns.map strD))), (7, .own 35), (8, .d (.int .i64 k)), (11, .ptr 11 0), (12, .d (.int .i64 x.1))],
        [(1, .box ((zoneD z).map .d)), (2, .box [.d (.str []), .nil 5]), (4, .box ((zoneD b).map .d)), (11, .box [.d (.str z.apex), .own 200]), (35, .row 3 1 (bits.map intD) true), (200, .row 40 5 (x.2.map signedD))]⟩,
      fun x => x.1 ≤ b.sets.length ∧ x.2.length ≤ k + x.1 ∧ x.2 ++ rwv (b.sets.drop x.1) (nx.drop k) = whole,
      fun x => b.sets.length - x.1, ⟨(i0, acc0), ⟨hi0, hl0, hc0⟩, Weak.keep ⟨⟨rfl, rfl⟩, ⟨rfl, rfl⟩, ⟨rfl, rfl⟩, ⟨rfl, rfl⟩, ⟨rfl, rfl⟩, ⟨rfl, rfl⟩, ⟨rfl, rfl⟩, ⟨rfl, rfl⟩, trivial⟩ ⟨⟨rfl, rfl⟩, ⟨rfl, rfl⟩, ⟨rfl, rfl⟩, ⟨rfl, rfl⟩, ⟨rfl, rfl⟩, ⟨rfl, rfl⟩, trivial⟩⟩, ?_⟩
    rintro ⟨i, acc⟩ ⟨hi, hl, hc⟩
    simp only at hi hl hc
    conv => whnf
    (refine ⟨(by kernel_rfl : planOk _ _ = true), ?_⟩; conv => whnf)
    refine bcase_intro (fun h2 => ?_) (fun h2 => ?_) <;> (rw [h2]; conv => whnf)
    · have hil : i < b.sets.length := by simp at h2; omega
      obtain ⟨s, hs⟩ : ∃ s, b.sets[i]? = some s := ⟨_, List.getElem?_eq_getElem hil⟩
      have hdr : b.sets.drop i = s :: b.sets.drop (i + 1) := by
        rw [List.drop_eq_getElem_cons hil, (List.getElem?_eq_some_iff.1 hs).2]
      refine ⟨Int.natCast_nonneg i, signedD s, map_get hs, ?_⟩
      conv => whnf
      refine ⟨Int.natCast_nonneg k, strD n, map_get hn, ?_⟩
      conv => whnf
      (refine ⟨_, _, ROrder_fn s.set.name n (valid_len (hvb i s hs)) (valid_len (hvn k n hn)), ?_⟩; conv => whnf)
      refine bcase_intro (fun h3 => ?_) (fun h3 => ?_) <;> (rw [h3]; conv => whnf)
      · have hle : compareN s.set.name n ≤ 0 := by simpa using h3
        (refine ⟨(by kernel_rfl : cleanOk _ = true), ?_⟩; conv => whnf)
        refine ⟨Int.natCast_nonneg i, signedD s, map_get hs, ?_⟩
        conv => whnf
        repeat' (first
          | (refine ⟨by kernel_rfl, ?_⟩; conv => whnf)
          | (refine ⟨by (show (acc.map signedD).length + 1 ≤ _; rw [List.length_map]; omega), by (show ((acc.map signedD).length + 1) * 80 ≤ _; rw [List.length_map]; omega), ?_⟩; conv => whnf)
          | fail)
        refine ⟨(i + 1, acc ++ [s]), ⟨hil, by (show (acc ++ [s]).length ≤ k + (i + 1); rw [List.length_append]; simp; omega), ?_⟩, by (show b.sets.length - (i + 1) < b.sets.length - i; omega), Weak.keep ⟨⟨rfl, rfl⟩, ⟨rfl, rfl⟩, ⟨rfl, rfl⟩, ⟨rfl, rfl⟩, ⟨rfl, rfl⟩, ⟨rfl, rfl⟩, ⟨rfl, rfl⟩, ⟨wrap_succ (k := i) (by omega), rfl⟩, trivial⟩ ⟨⟨rfl, rfl⟩, ⟨rfl, rfl⟩, ⟨rfl, rfl⟩, ⟨rfl, rfl⟩, ⟨rfl, rfl⟩, ⟨by (show some (Blk.row _ _ (_ ++ _)) = some (Blk.row _ _ _); rw [List.map_append]; rfl), rfl⟩, trivial⟩⟩
        show acc ++ [s] ++ rwv (b.sets.drop (i + 1)) (nx.drop k) = whole
        rw [← hc, hdr, hxd, rwv_cons, if_pos hle, List.append_assoc]
        rfl
      · have hle : ¬ compareN s.set.name n ≤ 0 := by simpa using h3
        have hfin : rwv (b.sets.drop i) (nx.drop k) = ⟨⟨n, 8, lf, [⟨to, IntKind.i64.wrap (bv + bitN 8), 0⟩]⟩, []⟩ :: rwv (b.sets.drop i) (nx.drop (k + 1)) := by
          rw [hdr, hxd, rwv_cons, if_neg hle]
        have hgb : (bits.map intD)[k]? = some (intD bv) := map_get hbv
        have hblt : k < (bits.map intD).length := (List.getElem?_eq_some_iff.1 hgb).1
        have hb1 : (acc.map signedD).length + 1 ≤ 9223372036854775807 := by rw [List.length_map]; omega
        have hb2 : ((acc.map signedD).length + 1) * 80 ≤ 140737488355328 := by rw [List.length_map]; omega
        have hap : acc ++ [⟨⟨n, 8, lf, [⟨to, IntKind.i64.wrap (bv + bitN 8), 0⟩]⟩, []⟩] ++ rwv (b.sets.drop i) (nx.drop (k + 1)) = whole := by rw [← hc, hfin, List.append_assoc]; rfl
        by_cases hkk : k + 1 < ns.length
        · rw [if_pos hkk] at hto
          have et : decide (IntKind.i64.wrap ((k : Int) + 1) < ((ns.map strD).length : Int)) = true := by rw [wrap_add (by omega), hnm]; simp; omega
          rw [et]
          conv => whnf
          refine ⟨by rw [wrap_add (by omega)]; omega, strD to, by rw [wrap_add (by omega)]; exact map_get hto, ?_⟩
          conv => whnf
          repeat' (first
            | (refine ⟨(by kernel_rfl : planOk _ _ = true), ?_⟩; conv => whnf)
            | (refine ⟨_, _, fL, ?_⟩; conv => whnf)
            | (refine ⟨_, _, fB, ?_⟩; conv => whnf)
            | (refine ⟨Int.natCast_nonneg k, strD n, map_get hn, ?_⟩; conv => whnf)
            | (refine ⟨Int.natCast_nonneg k, hblt, ?_⟩; conv => whnf)
            | (refine ⟨_, hgb, ?_⟩; conv => whnf)
            | (refine ⟨hb1, hb2, ?_⟩; conv => whnf)
            | (refine ⟨(k + 1, i, acc ++ [⟨⟨n, 8, lf, [⟨to, IntKind.i64.wrap (bv + bitN 8), 0⟩]⟩, []⟩]), ⟨hlt, hi, by (show (acc ++ [_]).length ≤ k + 1 + i; rw [List.length_append]; simp; omega), hap⟩, by (show ns.length - (k + 1) < ns.length - k; omega), Weak.keep ⟨⟨rfl, rfl⟩, ⟨rfl, rfl⟩, ⟨rfl, rfl⟩, ⟨rfl, rfl⟩, ⟨rfl, rfl⟩, ⟨wrap_succ (k := k) (by omega), rfl⟩, ⟨rfl, rfl⟩, ⟨rfl, rfl⟩, trivial⟩ ⟨⟨rfl, rfl⟩, ⟨rfl, rfl⟩, ⟨rfl, rfl⟩, ⟨rfl, rfl⟩, ⟨rfl, rfl⟩, ⟨by (show some (Blk.row _ _ (_ ++ _)) = some (Blk.row _ _ _); rw [List.map_append]; rfl), rfl⟩, trivial⟩⟩; done)
            | fail)
        · rw [if_neg hkk] at hto
          have et : decide (IntKind.i64.wrap ((k : Int) + 1) < ((ns.map strD).length : Int)) = false := by rw [wrap_add (by omega), hnm]; simp; omega
          rw [et]
          conv => whnf
          repeat' (first
            | (refine ⟨(by kernel_rfl : planOk _ _ = true), ?_⟩; conv => whnf)
            | (refine ⟨_, _, fL, ?_⟩; conv => whnf)
            | (refine ⟨_, _, fB, ?_⟩; conv => whnf)
            | (refine ⟨Int.natCast_nonneg k, strD n, map_get hn, ?_⟩; conv => whnf)
            | (refine ⟨Int.natCast_nonneg k, hblt, ?_⟩; conv => whnf)
            | (refine ⟨_, hgb, ?_⟩; conv => whnf)
            | (refine ⟨hb1, hb2, ?_⟩; conv => whnf)
            | (refine ⟨(k + 1, i, acc ++ [⟨⟨n, 8, lf, [⟨to, IntKind.i64.wrap (bv + bitN 8), 0⟩]⟩, []⟩]), ⟨hlt, hi, by (show (acc ++ [_]).length ≤ k + 1 + i; rw [List.length_append]; simp; omega), hap⟩, by (show ns.length - (k + 1) < ns.length - k; omega), Weak.keep ⟨⟨rfl, rfl⟩, ⟨rfl, rfl⟩, ⟨rfl, rfl⟩, ⟨rfl, rfl⟩, ⟨rfl, rfl⟩, ⟨wrap_succ (k := k) (by omega), rfl⟩, ⟨rfl, rfl⟩, ⟨rfl, rfl⟩, trivial⟩ ⟨⟨rfl, rfl⟩, ⟨rfl, rfl⟩, ⟨rfl, rfl⟩, ⟨rfl, rfl⟩, ⟨rfl, rfl⟩, ⟨by (show some (Blk.row _ _ (_ ++ _)) = some (Blk.row _ _ _); rw [List.map_append, hto]; rfl), rfl⟩, trivial⟩⟩; done)
            | fail)
    · have hil : i = b.sets.length := by simp at h2; omega
      have hfin : rwv (b.sets.drop i) (nx.drop k) = ⟨⟨n, 8, lf, [⟨to, IntKind.i64.wrap (bv + bitN 8), 0⟩]⟩, []⟩ :: rwv (b.sets.drop i) (nx.drop (k + 1)) := by
        rw [hil, List.drop_length, hxd, rwv_one]
      have hgb : (bits.map intD)[k]? = some (intD bv) := map_get hbv
      have hblt : k < (bits.map intD).length := (List.getElem?_eq_some_iff.1 hgb).1
      have hb1 : (acc.map signedD).length + 1 ≤ 9223372036854775807 := by rw [List.length_map]; omega
      have hb2 : ((acc.map signedD).length + 1) * 80 ≤ 140737488355328 := by rw [List.length_map]; omega
      have hap : acc ++ [⟨⟨n, 8, lf, [⟨to, IntKind.i64.wrap (bv + bitN 8), 0⟩]⟩, []⟩] ++ rwv (b.sets.drop i) (nx.drop (k + 1)) = whole := by rw [← hc, hfin, List.append_assoc]; rfl
      by_cases hkk : k + 1 < ns.length
      · rw [if_pos hkk] at hto
        have et : decide (IntKind.i64.wrap ((k : Int) + 1) < ((ns.map strD).length : Int)) = true := by rw [wrap_add (by omega), hnm]; simp; omega
        rw [et]
        conv => whnf
        refine ⟨by rw [wrap_add (by omega)]; omega, strD to, by rw [wrap_add (by omega)]; exact map_get hto, ?_⟩
        conv => whnf
        repeat' (first
          | (refine ⟨(by kernel_rfl : planOk _ _ = true), ?_⟩; conv => whnf)
          | (refine ⟨_, _, fL, ?_⟩; conv => whnf)
          | (refine ⟨_, _, fB, ?_⟩; conv => whnf)
          | (refine ⟨Int.natCast_nonneg k, strD n, map_get hn, ?_⟩; conv => whnf)
          | (refine ⟨Int.natCast_nonneg k, hblt, ?_⟩; conv => whnf)
          | (refine ⟨_, hgb, ?_⟩; conv => whnf)
          | (refine ⟨hb1, hb2, ?_⟩; conv => whnf)
          | (refine ⟨(k + 1, i, acc ++ [⟨⟨n, 8, lf, [⟨to, IntKind.i64.wrap (bv + bitN 8), 0⟩]⟩, []⟩]), ⟨hlt, hi, by (show (acc ++ [_]).length ≤ k + 1 + i; rw [List.length_append]; simp; omega), hap⟩, by (show ns.length - (k + 1) < ns.length - k; omega), Weak.keep ⟨⟨rfl, rfl⟩, ⟨rfl, rfl⟩, ⟨rfl, rfl⟩, ⟨rfl, rfl⟩, ⟨rfl, rfl⟩, ⟨wrap_succ (k := k) (by omega), rfl⟩, ⟨rfl, rfl⟩, ⟨rfl, rfl⟩, trivial⟩ ⟨⟨rfl, rfl⟩, ⟨rfl, rfl⟩, ⟨rfl, rfl⟩, ⟨rfl, rfl⟩, ⟨rfl, rfl⟩, ⟨by (show some (Blk.row _ _ (_ ++ _)) = some (Blk.row _ _ _); rw [List.map_append]; rfl), rfl⟩, trivial⟩⟩; done)
          | fail)
      · rw [if_neg hkk] at hto
        have et : decide (IntKind.i64.wrap ((k : Int) + 1) < ((ns.map strD).length : Int)) = false := by rw [wrap_add (by omega), hnm]; simp; omega
        rw [et]
        conv => whnf
        repeat' (first
          | (refine ⟨(by kernel_rfl : planOk _ _ = true), ?_⟩; conv => whnf)
          | (refine ⟨_, _, fL, ?_⟩; conv => whnf)
          | (refine ⟨_, _, fB, ?_⟩; conv => whnf)
          | (refine ⟨Int.natCast_nonneg k, strD n, map_get hn, ?_⟩; conv => whnf)
          | (refine ⟨Int.natCast_nonneg k, hblt, ?_⟩; conv => whnf)
          | (refine ⟨_, hgb, ?_⟩; conv => whnf)
          | (refine ⟨hb1, hb2, ?_⟩; conv => whnf)
          | (refine ⟨(k + 1, i, acc ++ [⟨⟨n, 8, lf, [⟨to, IntKind.i64.wrap (bv + bitN 8), 0⟩]⟩, []⟩]), ⟨hlt, hi, by (show (acc ++ [_]).length ≤ k + 1 + i; rw [List.length_append]; simp; omega), hap⟩, by (show ns.length - (k + 1) < ns.length - k; omega), Weak.keep ⟨⟨rfl, rfl⟩, ⟨rfl, rfl⟩, ⟨rfl, rfl⟩, ⟨rfl, rfl⟩, ⟨rfl, rfl⟩, ⟨wrap_succ (k := k) (by omega), rfl⟩, ⟨rfl, rfl⟩, ⟨rfl, rfl⟩, trivial⟩ ⟨⟨rfl, rfl⟩, ⟨rfl, rfl⟩, ⟨rfl, rfl⟩, ⟨rfl, rfl⟩, ⟨rfl, rfl⟩, ⟨by (show some (Blk.row _ _ (_ ++ _)) = some (Blk.row _ _ _); rw [List.map_append, hto]; rfl), rfl⟩, trivial⟩⟩; done)
          | fail)
  · obtain rfl : k = ns.length := by simp at h1; omega
    rw [List.drop_eq_nil_of_le (Nat.le_of_eq hxl), rwv_nil] at hc0
    (refine ⟨(by kernel_rfl : cleanOk _ = true), ?_⟩; conv => whnf)
    have hrow : ((b.sets.map signedD).drop ((i0 : Nat) : Int).toNat).take ((((b.sets.map signedD).length : Nat) : Int).toNat - ((i0 : Nat) : Int).toNat) = (b.sets.drop i0).map signedD := by
      rw [Int.toNat_natCast, Int.toNat_natCast, List.take_of_length_le (by rw [List.length_drop]; omega), List.map_drop]
    have hlen2 : (acc0.map signedD).length + ((b.sets.drop i0).map signedD).length = whole.length := by
      rw [List.length_map, List.length_map, ← hc0, List.length_append]
    have hwl : whole.length ≤ 100000 := by rw [← hc0, List.length_append, List.length_drop]; omega
    refine ⟨Int.natCast_nonneg i0, (show ((i0 : Nat) : Int) ≤ (((b.sets.map signedD).length : Nat) : Int) by rw [hbm]; omega), Int.le_refl _, ?_⟩
    conv => whnf
    repeat' (first
      | (refine ⟨by kernel_rfl, ?_⟩; conv => whnf)
      | fail)
    refine ⟨by (show (acc0.map signedD).length + (((b.sets.map signedD).drop ((i0 : Nat) : Int).toNat).take ((((b.sets.map signedD).length : Nat) : Int).toNat - ((i0 : Nat) : Int).toNat)).length ≤ _; rw [hrow, hlen2]; omega), by (show ((acc0.map signedD).length + (((b.sets.map signedD).drop ((i0 : Nat) : Int).toNat).take ((((b.sets.map signedD).length : Nat) : Int).toNat - ((i0 : Nat) : Int).toNat)).length) * 80 ≤ _; rw [hrow, hlen2]; omega), ?_⟩
    conv => whnf
    repeat' (first
      | (refine ⟨by kernel_rfl, ?_⟩; conv => whnf)
      | fail)
    refine ret_data rfl ?_
    have hfinal : acc0.map signedD ++ ((b.sets.map signedD).drop ((i0 : Nat) : Int).toNat).take ((((b.sets.map signedD).length : Nat) : Int).toNat - ((i0 : Nat) : Int).toNat) = whole.map signedD := by
      rw [hrow, ← List.map_append, hc0]
    show AV.tuple [.agg [.d (.str z.apex), .d (.slice 5 (acc0.map signedD ++ ((b.sets.map signedD).drop ((i0 : Nat) : Int).toNat).take ((((b.sets.map signedD).length : Nat) : Int).toNat - ((i0 : Nat) : Int).toNat)))], .d (.int .i64 0)] = _
    rw [hfinal]
    rfl
/-- The reference's Chain. -/
theorem rchain_fn {z : Zone} (hv : validZ z = true) (hlen : z.sets.length ≤ 10000) : NQ.Fn cx 27 [.agg (zoneD z)] (.tuple [.agg ((zoneD (chZ z)).map .d), .d (.int .i64 0)]) [] :=
  rchain_head hv hlen fun st hw => rchain_bits hv hlen _ (fun bits st hok hw => rchain_weave hv hlen bits hok st hw) st hw
end Go.Proofs.YtjecmfajdofamaaGreatDoor

/-
  DenialComplete: the walk of its text.
-/
set_option linter.unusedSimpArgs false
set_option linter.unusedVariables false
set_option maxRecDepth 100000
namespace NP
open NQ Go
theorem bel_refer {z : Zone} (hv : validZ z = true) (hlen : z.sets.length ≤ 10000) {q : Quest} (b : Bel z q) : referB (vw (chZ z) q) = false := by
  rcases b.cut with c | ⟨c, h⟩
  · exact opn_refer hv hlen c
  · rw [vw_refer, ch_cutOf hv hlen, val_spec hv c (under_self _)]
    have : specialQ q = true := h
    rw [this]; simp
theorem below_vals (apex : Bs) (q : Quest) (N : List RSet) : ∀ C : List RSet, belowR apex q N C = 0 ∨ belowR apex q N C = 5 ∨ belowR apex q N C = 6
  | [] => .inl rfl
  | s :: t => by
    rw [belowR_cons]
    repeat' split
    · exact .inr (.inr rfl)
    · exact .inr (.inl rfl)
    · exact .inr (.inr rfl)
    · exact below_vals apex q N t
theorem deny_vals {z : Zone} (hv : validZ z = true) {q : Quest} (hq : questB q = true) {L : List RSet} (hL : ∀ s ∈ L, s ∈ nxZ z) : (deniedR z.apex q L).1 = 0 ∨ (deniedR z.apex q L).1 = 5 ∨ (deniedR z.apex q L).1 = 6 := by
  rw [deny_eq hv hq hL]
  repeat' split
  · exact .inl rfl
  · exact .inr (.inl rfl)
  · exact below_vals _ _ _ _
theorem as_sets (L : List RSet) : (L.map asSigned).map Signed.set = L := by
  rw [List.map_map]; exact List.map_id _
end NP
namespace Go.Proofs.YtjecmfajdofamaaGreatDoor
open NQ Go NP Go.RowKit

set_option maxHeartbeats 4000000 in
theorem denialComplete_fn (z : Zone) (q : Quest) : NQ.Fn cx 7 [.agg (zoneD z), .agg (questD q)] (.d (.bool true)) [] := by
  have fU := usable9_fn z
  have fQ := rquest_fn q
  cases hU : (decide (z.sets.length ≤ 60) && fewB z && validZ z) with
  | false =>
    rw [hU] at fU
    refine fn_of_vc tyOk mixed Tryz.func7 (by kernel_rfl) rfl (Nat.le_of_ble_eq_true rfl) ?_; conv => whnf
    (refine ⟨_, _, head9_fn, ?_⟩; conv => whnf)
    (refine ⟨_, _, fU, ?_⟩; conv => whnf)
    exact ret_data rfl rfl
  | true =>
  rw [hU] at fU
  cases hq : questB q with
  | false =>
    rw [hq] at fQ
    refine fn_of_vc tyOk mixed Tryz.func7 (by kernel_rfl) rfl (Nat.le_of_ble_eq_true rfl) ?_; conv => whnf
    (refine ⟨_, _, head9_fn, ?_⟩; conv => whnf)
    (refine ⟨_, _, fU, ?_⟩; conv => whnf)
    (refine ⟨_, _, fQ, ?_⟩; conv => whnf)
    exact ret_data rfl rfl
  | true =>
  rw [hq] at fQ
  obtain ⟨hv, hlen, hfew⟩ := use9 hU
  have fB := belongsR_fn z q hv (questB_name hq).1
  cases hbel : belR z q with
  | false =>
    rw [hbel] at fB
    refine fn_of_vc tyOk mixed Tryz.func7 (by kernel_rfl) rfl (Nat.le_of_ble_eq_true rfl) ?_; conv => whnf
    (refine ⟨_, _, head9_fn, ?_⟩; conv => whnf)
    (refine ⟨_, _, fU, ?_⟩; conv => whnf)
    (refine ⟨_, _, fQ, ?_⟩; conv => whnf)
    (refine ⟨_, _, fB, ?_⟩; conv => whnf)
    exact ret_data rfl rfl
  | true =>
  rw [hbel] at fB
  obtain ⟨l1, l2, l3⟩ := ch_small_sets hv hlen
  obtain ⟨bel, hbz⟩ := bel_of hv (by omega) hq hbel
  have hc := (chain_small hv (by omega)).2
  have fC := rchain_fn hv (by omega)
  have fA := answerL_fn (chZ z) q (by omega)
  have fP := proof9_fn (chZ z) q
  obtain ⟨k1, k2⟩ := kind_is hc hq bel.under
  rw [bel_refer hv (by omega) bel, if_neg (by decide)] at k2
  rw [k1] at fA
  have law := proof_law hv (by omega) hq bel hbz
  have hfind := fun y hy => ch_find hv (by omega) (y := y) hy
  have hsound := fun L hL => deny_sound hv (by omega) hq (L := L) hL
  have hvals := fun L hL => deny_vals hv hq (L := L) hL
  have hsmall : ∀ y ∈ nxZ z, y.data.length ≤ 100000 := fun y hy => by
    obtain ⟨d, hd⟩ := nx_of hv hy
    rw [hd.data]; simp
  have fF := fun y => zfind_fn (chZ z) ⟨y, 8⟩
  clear hU hfew hbz bel k1 hc
  rcases law with ⟨n5, n6, hp⟩ | ⟨L, hp⟩
  · rw [hp] at fP
    rw [← k2] at n5 n6
    have b5 : ((ansR (chZ z) q).1.kind == 5) = false := by simpa using n5
    have b6 : ((ansR (chZ z) q).1.kind == 6) = false := by simpa using n6
    clear hfind hsound hvals hsmall fF hp k2
    generalize chZ z = c at *
    generalize (ansR c q).1 = an at *
    refine fn_of_vcz (fun _ => []) tyOk mixed Tryz.func7 (by kernel_rfl) rfl (Nat.le_of_ble_eq_true rfl) ?_
    conv => whnf
    (refine ⟨_, _, head9_fn, ?_⟩; conv => whnf)
    (refine ⟨_, _, fU, ?_⟩; conv => whnf)
    (refine ⟨_, _, fQ, ?_⟩; conv => whnf)
    (refine ⟨_, _, fB, ?_⟩; conv => whnf)
    (refine ⟨_, _, fC, ?_⟩; conv => whnf)
    (refine ⟨_, _, fA, ?_⟩; conv => whnf)
    (refine ⟨_, _, fP, ?_⟩; conv => whnf)
    rw [b5]
    conv => whnf
    rw [b6]
    conv => whnf
    exact ret_data rfl rfl
  · obtain ⟨s1, s2⟩ := hsound L hp.mem
    obtain ⟨_, _, s3⟩ := s2 hp.deny
    have hv2 := hvals L hp.mem
    rw [s3] at k2
    have fD := deniedX_fn z.apex q L (by have := hp.few; omega)
    rw [s1, ← k2] at fD
    rw [hp.eq] at fP
    have hk : (ansR (chZ z) q).1.kind = 5 ∨ (ansR (chZ z) q).1.kind = 6 := by
      rw [k2]; exact hv2.resolve_left hp.deny
    have fS := sets9_fn (L.map asSigned) (by rw [List.length_map]; have := hp.few; omega)
    rw [as_sets] at fS
    have hmem := hp.mem
    have hfew := hp.few
    clear hsound hvals s1 s2 s3 hv2 hp k2
    have step : ∀ y ∈ L, NQ.Fn cx 22 [.agg (zoneD (chZ z)), .agg (questD ⟨y.name, 8⟩)] (.tuple [.agg ((signedD (asSigned y)).map .d), .d (.bool true), .d (.int .i64 0)]) [] ∧ NQ.Fn cx 36 [.agg (signedD (asSigned y)), .agg (signedD (asSigned y))] (.d (.bool true)) [] := fun y hy => by
      have f1 := fF y.name
      rw [hfind y (hmem y hy)] at f1
      have f2 := sameSigned_fn (asSigned y) (asSigned y) (hsmall y (hmem y hy)) (by show ([] : List Sig).length ≤ _; simp)
      rw [decide_eq_true rfl] at f2
      exact ⟨f1, f2⟩
    clear hfind hsmall fF hmem
    generalize chZ z = c at *
    generalize (ansR c q).1 = an at *
    have hlm : ((L.map asSigned).map signedD).length = L.length := by rw [List.length_map, List.length_map]
    have e2 : decide ((((L.map asSigned).map signedD).length : Int) > 2) = false := by rw [hlm]; simp; omega
    have hkk : (an.kind == an.kind) = true := by simp
    obtain ⟨kd, hkd⟩ : ∃ b, (an.kind == 5) = b := ⟨_, rfl⟩
    have h6 : kd = false → (an.kind == 6) = true := fun h => by
      subst h
      rcases hk with h | h
      · rw [h] at hkd; cases hkd
      · rw [h]; rfl
    refine fn_of_vcz (fun _ => []) tyOk mixed Tryz.func7 (by kernel_rfl) rfl (Nat.le_of_ble_eq_true rfl) ?_
    conv => whnf
    (refine ⟨_, _, head9_fn, ?_⟩; conv => whnf)
    (refine ⟨_, _, fU, ?_⟩; conv => whnf)
    (refine ⟨_, _, fQ, ?_⟩; conv => whnf)
    (refine ⟨_, _, fB, ?_⟩; conv => whnf)
    (refine ⟨_, _, fC, ?_⟩; conv => whnf)
    (refine ⟨_, _, fA, ?_⟩; conv => whnf)
    (refine ⟨_, _, fP, ?_⟩; conv => whnf)
    rw [hkd]
    cases kd
    all_goals
      conv => whnf
      (try (rw [h6 rfl]; conv => whnf))
      rw [e2]
      conv => whnf
      refine ⟨Nat, fun k => ⟨[(2, .ptr 2 0), (3, .ptr 3 0), (5, .d (.bool true)), (6, .ptr 6 0), (8, .ptr 8 0), (10, .d (.slice 5 ((L.map asSigned).map signedD))), (81, .d (.slice 5 ((L.map asSigned).map signedD))), (82, .d (.int .i64 (((L.map asSigned).map signedD).length : Int))), (83, .d (.int .i64 k))], [(2, .box ((zoneD z).map .d)), (3, .box ((questD q).map .d)), (6, .box ((zoneD c).map .d)), (8, .box ((ansD an).map .d))]⟩,
        fun k => k ≤ L.length, fun k => L.length - k, ⟨0, by omega, Weak.keep ⟨⟨rfl, rfl⟩, ⟨rfl, rfl⟩, ⟨rfl, rfl⟩, ⟨rfl, rfl⟩, ⟨rfl, rfl⟩, ⟨rfl, rfl⟩, ⟨rfl, rfl⟩, ⟨rfl, rfl⟩, ⟨rfl, rfl⟩, trivial⟩ ⟨⟨rfl, rfl⟩, ⟨rfl, rfl⟩, ⟨rfl, rfl⟩, ⟨rfl, rfl⟩, trivial⟩⟩, fun k hk2 => ?_⟩
      conv => whnf
      refine bcase_intro (fun h1 => ?_) (fun h1 => ?_) <;> (rw [h1]; conv => whnf)
      · have hlt : k < L.length := by simp at h1; omega
        obtain ⟨y, hy⟩ : ∃ y, L[k]? = some y := ⟨_, List.getElem?_eq_getElem hlt⟩
        obtain ⟨f1, f2⟩ := step y (List.mem_of_getElem? hy)
        have hy2 : (L.map asSigned)[k]? = some (asSigned y) := by rw [List.getElem?_map, hy]; rfl
        refine ⟨Int.natCast_nonneg k, signedD (asSigned y), map_get hy2, ?_⟩
        conv => whnf
        (refine ⟨_, _, f1, ?_⟩; conv => whnf)
        (refine ⟨_, _, f2, ?_⟩; conv => whnf)
        exact ⟨k + 1, hlt, by (show L.length - (k + 1) < L.length - k; omega), Weak.keep ⟨⟨rfl, rfl⟩, ⟨rfl, rfl⟩, ⟨rfl, rfl⟩, ⟨rfl, rfl⟩, ⟨rfl, rfl⟩, ⟨rfl, rfl⟩, ⟨rfl, rfl⟩, ⟨rfl, rfl⟩, ⟨wrap_succ (by omega), rfl⟩, trivial⟩ ⟨⟨rfl, rfl⟩, ⟨rfl, rfl⟩, ⟨rfl, rfl⟩, ⟨rfl, rfl⟩, trivial⟩⟩
      · (refine ⟨(by kernel_rfl : planOk _ _ = true), ?_⟩; conv => whnf)
        (refine ⟨_, _, fS, ?_⟩; conv => whnf)
        (refine ⟨_, _, fD, ?_⟩; conv => whnf)
        exact ret_data rfl (by rw [hkk]; rfl)
end Go.Proofs.YtjecmfajdofamaaGreatDoor
