/-
  Texts of the proof of the law DenialTwice, merged in build order.
-/
import Derived.Test.YtjecmfajdofamaaGreatDoorLrbM
import Derived.Test.YtjecmfajdofamaaGreatDoorMLcv
import Derived.Test.YtjecmfajdofamaaGreatDoorMVa
import Derived.Test.YtjecmfajdofamaaGreatDoorMQt
import Derived.Test.YtjecmfajdofamaaGreatDoorMCa
/-
  Reference 07 on plain data: Refer, Answer, Same.
-/
set_option linter.unusedSimpArgs false
set_option linter.unusedVariables false
set_option maxRecDepth 100000
namespace NP
open NQ Go
theorem cutOf_cut {z : Zone} {n : Bs} (ho : Ordered z) (h : cutOfR z n ≠ []) : validN (cutOfR z n) = true ∧ hasS z.sets ⟨cutOfR z n, 2⟩ = true := by
  unfold cutOfR at h ⊢
  cases hf : (cutsL z.apex z.sets).find? fun c => underN n c with
  | none => rw [hf] at h; exact absurd rfl h
  | some c =>
    have hm := List.mem_of_find?_eq_some hf
    obtain ⟨_, _, h3, _, h5⟩ := cut_ne ho hm
    exact ⟨h3, h5⟩
theorem has_exists {z : Zone} {q : Quest} (h : hasS z.sets q = true) : existsR z q.name = true := by
  obtain ⟨s, hs, hp⟩ := has_iff.1 h
  have : s.set.name = q.name := congrArg Prod.fst hp
  exact List.any_eq_true.2 ⟨s, hs, by rw [this]; exact under_self _⟩
def specialQ (q : Quest) : Bool := q.type == 6 || q.type == 8
end NP
namespace Go.Proofs.YtjecmfajdofamaaGreatDoor
open NQ Go NP Go.RowKit

end Go.Proofs.YtjecmfajdofamaaGreatDoor

/-
  Law 09's and reference 09's small functions on plain data: sets, usable, example, some, Bit, Has, Bare.
-/
set_option linter.unusedSimpArgs false
set_option linter.unusedVariables false
set_option maxRecDepth 100000
namespace NP
open NQ Go
def hasR9 (d : Datum) (t : Int) : Bool := (IntKind.i64.wrap (d.n.tdiv (bitN t))).tmod 2 == 1
end NP
namespace Go.Proofs.YtjecmfajdofamaaGreatDoor
open NQ Go NP Go.RowKit

theorem sets9_fn (l : List Signed) (hn : l.length ≤ 100000) : NQ.Fn cx 37 [.slice 5 (l.map signedD)] (.d (.slice 4 ((l.map Signed.set).map setD))) [] := by
  refine fn_of_vc tyOk mixed Tryz.func37 (by kernel_rfl) rfl (Nat.le_of_ble_eq_true rfl) ?_; conv => whnf
  refine ⟨Nat, fun k => ⟨[(3, .own 100), (6, .d (.slice 5 (l.map signedD))), (7, .d (.int .i64 (l.map signedD).length)), (8, .d (.int .i64 k))],
      [(100, .row 37 4 (((l.take k).map Signed.set).map setD))]⟩, fun k => k ≤ l.length, fun k => l.length - k,
    ⟨0, by omega, (Weak.promote 3 100 4 37 4 rfl rfl (by decide)).trans (Weak.keep ⟨⟨rfl, rfl⟩, ⟨rfl, rfl⟩, ⟨rfl, rfl⟩, ⟨rfl, rfl⟩, trivial⟩ ⟨⟨rfl, rfl⟩, trivial⟩)⟩, fun k hk => ?_⟩
  conv => whnf
  refine bcase_intro (fun h1 => ?_) (fun h1 => ?_) <;> (rw [h1]; conv => whnf)
  · have hlt : k < l.length := by simp at h1; omega
    obtain ⟨s, hs⟩ : ∃ s, l[k]? = some s := ⟨_, List.getElem?_eq_getElem hlt⟩
    have hln : (((l.take k).map Signed.set).map setD).length = k := by rw [List.length_map, List.length_map, List.length_take]; omega
    refine ⟨Int.natCast_nonneg k, signedD s, map_get hs, ?_⟩
    conv => whnf
    refine ⟨by (show (((l.take k).map Signed.set).map setD).length + 1 ≤ _; omega), by (show ((((l.take k).map Signed.set).map setD).length + 1) * 56 ≤ _; omega), ?_⟩
    conv => whnf
    refine ⟨k + 1, hlt, by (show l.length - (k + 1) < l.length - k; omega), Weak.keep ⟨⟨rfl, rfl⟩, ⟨rfl, rfl⟩, ⟨rfl, rfl⟩, ⟨wrap_succ (by omega), rfl⟩, trivial⟩ ⟨⟨by (show some (Blk.row _ _ (_ ++ _)) = some (Blk.row _ _ _); rw [take_snoc hs, List.map_append, List.map_append]; rfl), rfl⟩, trivial⟩⟩
  · obtain rfl : k = l.length := by simp at h1; omega
    refine ret_data rfl ?_
    rw [List.take_length]
    rfl
theorem usable9_fn (z : Zone) : NQ.Fn cx 16 [.agg (zoneD z)] (.d (.bool (decide (z.sets.length ≤ 60) && fewB z && validZ z))) [] := by
  refine fn_of_vc tyOk mixed Tryz.func16 (by kernel_rfl) rfl (Nat.le_of_ble_eq_true rfl) ?_; conv => whnf
  have e : decide (((z.sets.map signedD).length : Int) ≤ 60) = decide (z.sets.length ≤ 60) := by rw [List.length_map, decide_eq_decide]; omega
  rw [e]
  refine bcase_intro (fun h1 => ?_) (fun h1 => ?_) <;> (rw [h1]; conv => whnf)
  · (refine ⟨_, _, few_fn z, ?_⟩; conv => whnf)
    refine bcase_intro (fun h2 => ?_) (fun h2 => ?_) <;> (rw [h2]; conv => whnf)
    · have fV := validR_fn z (by simp at h1; omega)
      rw [valid_eq] at fV
      (refine ⟨_, _, fV, ?_⟩; conv => whnf)
      exact ret_data rfl rfl
    · exact ret_data rfl rfl
  · exact ret_data rfl rfl
theorem bit9_fn (t : Nat) : NQ.Fn cx 78 [.int .i64 t] (.d (.int .i64 (bitN t))) [] := by
  refine fn_of_vc tyOk mixed Tryz.func78 (by kernel_rfl) rfl (Nat.le_of_ble_eq_true rfl) ?_; conv => whnf
  exact ret_data rfl rfl
theorem quo_val {c : Cx} {t : TypeId} (a b : Int) (hb : b ≠ 0) : binT c .quo t (.d (.int .i64 a)) (.d (.int .i64 b)) = some (.d (.int .i64 (IntKind.i64.wrap (a.tdiv b)))) := by
  show (match binInt .quo .i64 a b with | some r => some (AV.d r) | none => none) = _
  unfold binInt
  rw [decide_eq_false hb]
theorem hasR9_fn (d : Datum) (t : Nat) (hb : bitN t ≠ 0) : NQ.Fn cx 23 [.agg (datumD d), .int .i64 t] (.d (.bool (hasR9 d t))) [] := by
  refine fn_of_vc tyOk mixed Tryz.func23 (by kernel_rfl) rfl (Nat.le_of_ble_eq_true rfl) ?_; conv => whnf
  (refine ⟨(by kernel_rfl : planOk _ _ = true), ?_⟩; conv => whnf)
  (refine ⟨_, _, bit9_fn t, ?_⟩; conv => whnf)
  have er := quo_val (c := cx) (t := 3) d.n (bitN t) hb
  split
  case h_2 hx => exact absurd (hx.symm.trans er) (by simp)
  case h_1 hx =>
  cases hx.symm.trans er
  conv => whnf
  exact ret_data rfl rfl
end Go.Proofs.YtjecmfajdofamaaGreatDoor

/-
  Reference 09's Bare; law 09's example and some, on plain data.
-/
set_option linter.unusedSimpArgs false
set_option linter.unusedVariables false
set_option maxRecDepth 100000
namespace NP
open NQ Go
def fzB : Nat → List Nat
  | 6 => [66666]
  | _ => []
def exS (n : Bs) (k : Int) (d : Datum) : Signed := ⟨⟨n, k, 60, [d]⟩, []⟩
def exZ : Zone := ⟨[120], [exS [120] 2 ⟨[97, 46, 110, 115], 0, 0⟩, exS [120] 4 ⟨[], 1, 30⟩, exS [119, 46, 120] 1 ⟨[], 7, 0⟩, exS [97, 46, 121, 46, 120] 5 ⟨[116], 0, 0⟩]⟩
end NP
namespace Go.Proofs.YtjecmfajdofamaaGreatDoor
open NQ Go NP Go.RowKit

noncomputable def cxB : Cx := { cx with bld := [30] }
theorem tyB : TyOk cxB := tyOk
theorem mixedB : cxB.P.follows .mixedOrders = true := mixed
theorem bare_fn (z : Zone) (hz : z.sets.length ≤ 100000) : NQ.Fn cx 19 [.agg (zoneD z)] (.agg ((zoneD (bareZ z)).map .d)) [] := by
  show NQ.Fn cxB _ _ _ _
  refine fn_of_vcz fzB tyB mixedB Tryz.func19 (by kernel_rfl) rfl (Nat.le_of_ble_eq_true rfl) ?_
  conv => whnf
  refine ⟨Nat, fun k => ⟨[(1, .ptr 1 0), (2, .ptr 2 0), (3, .ptr 3 0), (4, .d (.int .i64 k))],
      [(1, .box ((zoneD z).map .d)), (2, .box [.d (.str []), .nil 5]), (3, .box [.d (.str z.apex), .own 200]), (200, .row 40 5 (((z.sets.take k).filter notNext).map signedD))]⟩,
    fun k => k ≤ z.sets.length, fun k => z.sets.length - k, ⟨0, by omega, (Weak.promoteBox 3 1 200 5 [.d (.str z.apex), .nil 5] 40 5 rfl rfl rfl (by decide)).trans (Weak.keep ⟨⟨rfl, rfl⟩, ⟨rfl, rfl⟩, ⟨rfl, rfl⟩, ⟨rfl, rfl⟩, trivial⟩ ⟨⟨rfl, rfl⟩, ⟨rfl, rfl⟩, ⟨rfl, rfl⟩, ⟨rfl, rfl⟩, trivial⟩)⟩, fun k hk => ?_⟩
  conv => whnf
  refine bcase_intro (fun h1 => ?_) (fun h1 => ?_) <;> (rw [h1]; conv => whnf)
  · have hlt : k < z.sets.length := by simp at h1; omega
    obtain ⟨s, hs⟩ : ∃ s, z.sets[k]? = some s := ⟨_, List.getElem?_eq_getElem hlt⟩
    have hfl : ((z.sets.take k).filter notNext).length ≤ k := Nat.le_trans (List.length_filter_le _ _) (by rw [List.length_take]; omega)
    have hfs := filter_snoc (p := notNext) hs
    refine ⟨Int.natCast_nonneg k, signedD s, map_get hs, ?_⟩
    conv => whnf
    refine bcase_intro (fun h2 => ?_) (fun h2 => ?_) <;> (rw [h2]; conv => whnf)
    · rw [if_pos (show notNext s = true from h2)] at hfs
      (refine ⟨(by kernel_rfl : cleanOk _ = true), ?_⟩; conv => whnf)
      refine ⟨Int.natCast_nonneg k, signedD s, map_get hs, ?_⟩
      conv => whnf
      repeat' (first
        | (refine ⟨by kernel_rfl, ?_⟩; conv => whnf)
        | (refine ⟨by (show (((z.sets.take k).filter notNext).map signedD).length + 1 ≤ _; rw [List.length_map]; omega), by (show ((((z.sets.take k).filter notNext).map signedD).length + 1) * 80 ≤ _; rw [List.length_map]; omega), ?_⟩; conv => whnf)
        | fail)
      exact ⟨k + 1, hlt, by (show z.sets.length - (k + 1) < z.sets.length - k; omega), Weak.keep ⟨⟨rfl, rfl⟩, ⟨rfl, rfl⟩, ⟨rfl, rfl⟩, ⟨wrap_succ (by omega), rfl⟩, trivial⟩ ⟨⟨rfl, rfl⟩, ⟨rfl, rfl⟩, ⟨rfl, rfl⟩, ⟨by (show some (Blk.row _ _ (_ ++ _)) = some (Blk.row _ _ _); rw [hfs, List.map_append]; rfl), rfl⟩, trivial⟩⟩
    · rw [if_neg (by rw [show notNext s = false from h2]; decide), List.append_nil] at hfs
      exact ⟨k + 1, hlt, by (show z.sets.length - (k + 1) < z.sets.length - k; omega), Weak.keep ⟨⟨rfl, rfl⟩, ⟨rfl, rfl⟩, ⟨rfl, rfl⟩, ⟨wrap_succ (by omega), rfl⟩, trivial⟩ ⟨⟨rfl, rfl⟩, ⟨rfl, rfl⟩, ⟨rfl, rfl⟩, ⟨by (rw [hfs]; rfl), rfl⟩, trivial⟩⟩
  · obtain rfl : k = z.sets.length := by simp at h1; omega
    refine ret_data rfl ?_
    rw [List.take_length]
    rfl
theorem exset9_fn (n : Bs) (k : Int) (d : Datum) : NQ.Fn cx 151 [.str n, .int .i64 k, .agg (datumD d)] (.agg ((signedD (exS n k d)).map .d)) [] := by
  refine fn_of_vc tyOk mixed Tryz.func151 (by kernel_rfl) rfl (Nat.le_of_ble_eq_true rfl) ?_; conv => whnf
  exact ret_data rfl rfl
theorem example9_fn : NQ.Fn cx 57 [] (.agg ((zoneD exZ).map .d)) [] := by
  refine fn_of_vc tyOk mixed Tryz.func57 (by kernel_rfl) rfl (Nat.le_of_ble_eq_true rfl) ?_; conv => whnf
  (refine ⟨_, _, exset9_fn [120] 2 ⟨[97, 46, 110, 115], 0, 0⟩, ?_⟩; conv => whnf)
  (refine ⟨_, _, exset9_fn [120] 4 ⟨[], 1, 30⟩, ?_⟩; conv => whnf)
  (refine ⟨_, _, exset9_fn [119, 46, 120] 1 ⟨[], 7, 0⟩, ?_⟩; conv => whnf)
  (refine ⟨_, _, exset9_fn [97, 46, 121, 46, 120] 5 ⟨[116], 0, 0⟩, ?_⟩; conv => whnf)
  exact ret_data rfl rfl
end Go.Proofs.YtjecmfajdofamaaGreatDoor

/-
  Plain: the reference's answer is lookup's answer.
-/
set_option linter.unusedSimpArgs false
set_option linter.unusedVariables false
set_option maxRecDepth 100000
namespace NP
open NQ Go
theorem cN_flip {a b : Bs} (h : compareN a b ≤ 0) : 0 ≤ compareN b a := by have := compareN_ord.anti a b; omega
theorem cN_flip' {a b : Bs} (h : 0 ≤ compareN a b) : compareN b a ≤ 0 := by have := compareN_ord.anti a b; omega
theorem underR_eq {s n : Bs} (hs : validN s = true) (hn : validN n = true) : (underR s n).1 = underN s n := by unfold underR; rw [if_pos ⟨hs, hn⟩]
theorem exB_exists {z : Zone} (ho : Ordered z) {n : Bs} (hn : validN n = true) : exB z.sets n = existsR z n := by
  have hp := rising_pw ho.rising
  have ge : ∀ s ∈ z.sets, underN s.set.name n = true → ∃ i, z.sets[i]? = some s ∧ posN z.sets n ≤ i := fun s hs hu => by
    obtain ⟨i, hi⟩ := List.getElem?_of_mem hs
    exact ⟨i, hi, (posN_iff hp hi).2 (cN_flip (stretch1 hu))⟩
  unfold exB existsR
  cases hg : z.sets[posN z.sets n]? with
  | none =>
    symm
    rw [List.any_eq_false]
    intro s hs hu
    obtain ⟨i, hi, hle⟩ := ge s hs hu
    have h1 := (List.getElem?_eq_some_iff.1 hi).1
    have h2 := List.getElem?_eq_none_iff.1 hg
    omega
  | some t =>
    have htm := List.mem_of_getElem? hg
    simp only
    rw [underR_eq (ho.name t htm) hn]
    cases hu : underN t.set.name n with
    | true => symm; exact List.any_eq_true.2 ⟨t, htm, hu⟩
    | false =>
      symm
      rw [List.any_eq_false]
      intro s hs hus
      obtain ⟨i, hi, hle⟩ := ge s hs hus
      have hnt : compareN n t.set.name ≤ 0 := cN_flip' ((posN_iff hp hg).1 (Nat.le_refl _))
      have hts : compareN t.set.name s.set.name ≤ 0 := by
        rcases Nat.lt_or_eq_of_le hle with hlt | heq
        · obtain ⟨h1, e1⟩ := List.getElem?_eq_some_iff.1 hg
          obtain ⟨h2, e2⟩ := List.getElem?_eq_some_iff.1 hi
          have := List.pairwise_iff_getElem.1 hp _ _ h1 h2 hlt
          rwa [e1, e2] at this
        · rw [← heq, hg] at hi; cases hi
          have := (compareN_ord.zero t.set.name t.set.name).2 rfl
          omega
      have := stretch2 (under_self n) hus hnt hts
      rw [hu] at this; cases this
end NP

/-
  Plain: the sets of an answer are sets of the zone, no two of one place.
-/
set_option linter.unusedSimpArgs false
set_option linter.unusedVariables false
set_option maxRecDepth 100000
namespace NP
open NQ Go
theorem noData_sets (v : View) : (noDataV v).sets = v.sets := by unfold noDataV; split <;> rfl
end NP

/-
  Plain: what the answer is for a zone and a question that are usable.
-/
set_option linter.unusedSimpArgs false
set_option linter.unusedVariables false
set_option maxRecDepth 100000
namespace NP
open NQ Go
/-- A zone and a question that the laws speak of. -/
structure Use (z : Zone) (q : Quest) : Prop where
  few : fewB z = true
  val : validZ z = true
  quest : questB q = true
  under : underN q.name z.apex = true
theorem Use.name {z : Zone} {q : Quest} (u : Use z q) : validN q.name = true := by have := u.quest; unfold questB at this; simp only [Bool.and_eq_true] at this; exact this.1.1
theorem Use.ord {z : Zone} {q : Quest} (u : Use z q) : Ordered z := validZ_ordered u.val
def vw (z : Zone) (q : Quest) : View := viewOf z q (cutOfR z q.name) (!(cutOfR z q.name == []))
theorem Use.cut {z : Zone} {q : Quest} (u : Use z q) : cutR z q.name = (cutOfR z q.name, !(cutOfR z q.name == []), 0) := cutR_eq u.val u.name u.under
theorem Use.ans {z : Zone} {q : Quest} (u : Use z q) : ansR z q = (ansV (vw z q), 0) := by
  have hq := u.quest
  unfold questB at hq
  simp only [Bool.and_eq_true, decide_eq_true_eq] at hq
  unfold ansR
  rw [if_neg (by simp; omega), u.cut]
  rfl
theorem vw_refer (z : Zone) (q : Quest) : referB (vw z q) = (!(cutOfR z q.name == []) && !((cutOfR z q.name == q.name) && specialQ q)) := by
  unfold referB atCutB specialQ vw viewOf
  dsimp only
  rw [Bool.beq_comm (a := q.name) (b := cutOfR z q.name)]
  cases (cutOfR z q.name == []) <;> cases (cutOfR z q.name == q.name) <;> simp
/-- Which kind an answer has. -/
theorem ansV_kind (v : View) : (ansV v).kind = if referB v = true then 4 else if dataB v = true then 1 else if aliasB v = true then 3 else if exB v.sets v.q.name = true then 5
    else if wildB (noDataV v) = true then 2 else if wildAliasB (noDataV v) = true then 3 else if wildNoB (noDataV v) = true then 5 else 6 := by
  unfold ansV
  split
  · rename_i h; unfold referA; rw [if_pos h]
  split
  · rfl
  split
  · rfl
  split
  · rename_i h; unfold noDataA; rw [if_pos h]
  split
  · rfl
  split
  · rfl
  split
  · rename_i h; unfold wildNoA; rw [if_pos h]
  · rfl
theorem data_has (z : Zone) (q : Quest) : dataB (vw z q) = hasS z.sets q := by
  have h := atI_neg z.sets q
  show decide (atI z.sets q ≥ 0) = _
  cases hh : hasS z.sets q with
  | true =>
    rw [hh] at h
    have : ¬ atI z.sets q < 0 := by simpa using h
    exact decide_eq_true (by omega)
  | false =>
    rw [hh] at h
    have : atI z.sets q < 0 := by simpa using h
    exact decide_eq_false (by omega)
theorem pick_one {z : Zone} (ho : Ordered z) {q : Quest} {s : Signed} (hs : s ∈ z.sets) (hp : s.place = q.place) : pickS z.sets [] [atI z.sets q] = [s] := by
  obtain ⟨k, t, h1, h2, h3⟩ := at_is (has_iff.2 ⟨s, hs, hp⟩)
  have : t = s := RP.uniq ho.rising.pw (List.mem_of_getElem? h2) hs (h3.trans hp.symm)
  subst this
  rw [h1, pickS]
  simp [h2, pickS]
theorem Use.data {z : Zone} {q : Quest} (u : Use z q) (hr : referB (vw z q) = false) {s : Signed} (hs : s ∈ z.sets) (hp : s.place = q.place) : (ansR z q).1 = ⟨1, [s], []⟩ := by
  rw [u.ans]
  show ansV (vw z q) = _
  unfold ansV
  rw [if_neg (by simp [hr]), if_pos (by rw [data_has]; exact has_iff.2 ⟨s, hs, hp⟩)]
  unfold dataA
  have := pick_one u.ord hs hp
  show (⟨1, pickS z.sets [] [atI z.sets q], []⟩ : Ans) = _
  rw [this]
/-- What is found. -/
theorem Use.find {z : Zone} {q : Quest} (u : Use z q) : ∃ s has, findR z q = (s, has, 0) ∧ has = hasS z.sets q ∧ (has = true → s ∈ z.sets ∧ s.place = q.place) := by
  cases hh : hasS z.sets q with
  | true =>
    obtain ⟨s, h1, h2, h3⟩ := find_is u.val u.quest hh
    exact ⟨s, true, h3, rfl, fun _ => ⟨h1, h2⟩⟩
  | false => exact ⟨_, false, find_not u.val u.quest hh, rfl, fun h => by cases h⟩
end NP

/-
  Plain: answers of a zone into which a set is put, or from which one is dropped; wildcards; names that do not exist.
-/
set_option linter.unusedSimpArgs false
set_option linter.unusedVariables false
set_option maxRecDepth 100000
namespace NP
open NQ Go
theorem cutsL_congr {z y : Zone} (ha : y.apex = z.apex) (h : ∀ s : Signed, s.set.type = 2 → (s ∈ y.sets ↔ s ∈ z.sets)) (c : Bs) : c ∈ cutsL y.apex y.sets ↔ c ∈ cutsL z.apex z.sets := by
  rw [cutsL_iff, cutsL_iff, ha]
  have ht : ∀ s : Signed, isCutAt z.apex s = true → s.set.type = 2 := fun s hs => by unfold isCutAt at hs; simp only [Bool.and_eq_true, beq_iff_eq] at hs; exact hs.1
  constructor
  · rintro ⟨s, h1, h2, h3⟩; exact ⟨s, (h s (ht s h2)).1 h1, h2, h3⟩
  · rintro ⟨s, h1, h2, h3⟩; exact ⟨s, (h s (ht s h2)).2 h1, h2, h3⟩
theorem star_wild {m : Bs} (h : starR m ≠ []) : wildN (starR m) = true := by
  unfold starR at h ⊢
  unfold joinR at h ⊢
  split
  · show wildN (nameOf ([42] :: labs m)) = true
    rw [nameOf_ne (by simp)]
    cases labs m with
    | nil => rfl
    | cons x t => rw [joinDot_cons _ _ (by simp)]; rfl
  · rename_i hc; rw [if_neg hc] at h; exact absurd rfl h
theorem wild_star {v : View} (hx : exB v.sets v.q.name = false) : (noDataV v).wild = starR (closeB v.apex v.sets v.q.name) := by
  unfold noDataV; rw [if_neg (by simp [hx])]
theorem star_ok' (n : Bs) : starR n = [] ∨ validN (starR n) = true := by
  unfold starR
  unfold joinR
  split
  · rename_i h; exact .inr (join_ok h).1
  · exact .inl rfl
theorem Use.wild {z : Zone} {q : Quest} (u : Use z q) (hk : (ansR z q).1.kind = 2) : referB (vw z q) = false ∧ existsR z q.name = false ∧ ∃ s0 R, (ansR z q).1.sets = s0 :: R ∧ wildN s0.set.name = true ∧ s0.set.type = q.type := by
  have ho := u.ord
  rw [u.ans] at hk ⊢
  have hk' : (ansV (vw z q)).kind = 2 := hk
  rw [ansV_kind] at hk'
  cases hr : referB (vw z q) with
  | true => rw [hr] at hk'; simp at hk'
  | false =>
  cases hd : dataB (vw z q) with
  | true => rw [hr, hd] at hk'; simp at hk'
  | false =>
  cases ha : aliasB (vw z q) with
  | true => rw [hr, hd, ha] at hk'; simp at hk'
  | false =>
  cases hx : exB (vw z q).sets (vw z q).q.name with
  | true => rw [hr, hd, ha, hx] at hk'; simp at hk'
  | false =>
  cases hw : wildB (noDataV (vw z q)) with
  | false =>
    rw [hr, hd, ha, hx, hw] at hk'
    simp only [Bool.false_eq_true, ↓reduceIte] at hk'
    exfalso
    revert hk'
    repeat' split
    all_goals omega
  | true =>
  have hx' : existsR z q.name = false := by rw [← exB_exists ho u.name]; exact hx
  refine ⟨rfl, hx', ?_⟩
  have hans : ansV (vw z q) = wildA (noDataV (vw z q)) := by
    unfold ansV
    rw [if_neg (by simp [hr]), if_neg (by simp [hd]), if_neg (by simp [ha]), if_neg (by simp [hx]), if_pos hw]
  have hq : (noDataV (vw z q)).q = q := by unfold noDataV; split <;> rfl
  have hs : (noDataV (vw z q)).sets = z.sets := noData_sets _
  have hat : 0 ≤ atI z.sets ⟨(noDataV (vw z q)).wild, q.type⟩ := by
    unfold wildB at hw
    rw [hs, hq] at hw
    simpa using hw
  obtain ⟨k, s, h1, h2, h3⟩ := at_is (l := z.sets) (q := ⟨(noDataV (vw z q)).wild, q.type⟩) (by
    have := atI_neg z.sets ⟨(noDataV (vw z q)).wild, q.type⟩
    cases hh : hasS z.sets ⟨(noDataV (vw z q)).wild, q.type⟩ with
    | true => rfl
    | false => rw [hh] at this; simp at this; omega)
  have hsn : s.set.name = (noDataV (vw z q)).wild := congrArg Prod.fst h3
  have hst : s.set.type = q.type := congrArg Prod.snd h3
  refine ⟨s, pickS z.sets ([] ++ [((k : Nat) : Int)]) [covI z.sets q.name], ?_, ?_, hst⟩
  · show (ansV (vw z q)).sets = _
    rw [hans]
    unfold wildA
    rw [hs, hq, h1]
    show pickS z.sets [] [((k : Nat) : Int), covI z.sets q.name] = _
    rw [pickS, if_neg (by simp)]
    simp [h2]
  · rw [hsn, wild_star hx]
    refine star_wild ?_
    rw [← wild_star hx, ← hsn]
    exact valid_ne_nil (ho.name s (List.mem_of_getElem? h2))
/-- A name that does not exist. -/
theorem Use.none {z : Zone} {q : Quest} (u : Use z q) (hk : (ansR z q).1.kind = 6) : existsR z q.name = false ∧ cutOfR z q.name = [] ∧ ((noDataV (vw z q)).wild = [] ∨ existsR z (noDataV (vw z q)).wild = false) := by
  have ho := u.ord
  rw [u.ans] at hk
  have hk' : (ansV (vw z q)).kind = 6 := hk
  rw [ansV_kind] at hk'
  cases hr : referB (vw z q) with
  | true => rw [hr] at hk'; simp at hk'
  | false =>
  cases hd : dataB (vw z q) with
  | true => rw [hr, hd] at hk'; simp at hk'
  | false =>
  cases ha : aliasB (vw z q) with
  | true => rw [hr, hd, ha] at hk'; simp at hk'
  | false =>
  cases hx : exB (vw z q).sets (vw z q).q.name with
  | true => rw [hr, hd, ha, hx] at hk'; simp at hk'
  | false =>
  have hx' : existsR z q.name = false := by rw [← exB_exists ho u.name]; exact hx
  cases hw : wildB (noDataV (vw z q)) with
  | true => rw [hr, hd, ha, hx, hw] at hk'; simp at hk'
  | false =>
  cases hwa : wildAliasB (noDataV (vw z q)) with
  | true => rw [hr, hd, ha, hx, hw, hwa] at hk'; simp at hk'
  | false =>
  cases hwn : wildNoB (noDataV (vw z q)) with
  | true => rw [hr, hd, ha, hx, hw, hwa, hwn] at hk'; simp at hk'
  | false =>
  refine ⟨hx', ?_, ?_⟩
  · cases hc : (cutOfR z q.name == []) with
    | true => simpa using hc
    | false =>
      have hne : cutOfR z q.name ≠ [] := by simpa using hc
      rw [vw_refer, hc] at hr
      simp only [Bool.not_false, Bool.true_and, Bool.not_eq_false', Bool.and_eq_true, beq_iff_eq] at hr
      obtain ⟨_, h2⟩ := cutOf_cut ho hne
      have := has_exists h2
      rw [hr.1] at this
      rw [hx'] at this; cases this
  · unfold wildNoB at hwn
    rw [noData_sets] at hwn
    cases hw0 : ((noDataV (vw z q)).wild == []) with
    | true => exact .inl (by simpa using hw0)
    | false =>
      rw [hw0] at hwn
      have hwne : (noDataV (vw z q)).wild ≠ [] := by simpa using hw0
      have hwv : validN (noDataV (vw z q)).wild = true := by
        rw [wild_star hx] at hwne ⊢
        have := star_ok' (closeB (vw z q).apex (vw z q).sets (vw z q).q.name)
        exact this.resolve_left hwne
      refine .inr ?_
      rw [← exB_exists ho hwv]
      have h5 : (!false && exB (vw z q).sets (noDataV (vw z q)).wild) = false := hwn
      rw [Bool.not_false, Bool.true_and] at h5
      exact h5
end NP

/-
  Plain laws of the chain: the zone without next sets; sets and next sets woven.
-/
set_option linter.unusedSimpArgs false
set_option linter.unusedVariables false
set_option maxRecDepth 100000
namespace NP
open NQ Go
theorem bare_mem {z : Zone} {s : Signed} : s ∈ (bareZ z).sets ↔ s ∈ z.sets ∧ s.set.type ≠ 8 := by
  unfold bareZ notNext
  simp [List.mem_filter]
theorem bare_ordered {z : Zone} (ho : Ordered z) : Ordered (bareZ z) :=
  ⟨ho.apex, ho.tame, Nat.le_trans (List.length_filter_le _ _) ho.few, fun s hs => ho.set s (bare_mem.1 hs).1, fun s hs => ho.under s (bare_mem.1 hs).1, RP.rising (ho.rising.pw.filter _)⟩
theorem bare_cuts {z : Zone} (c : Bs) : c ∈ cutsL (bareZ z).apex (bareZ z).sets ↔ c ∈ cutsL z.apex z.sets :=
  cutsL_congr (z := z) (y := bareZ z) rfl (fun s hs => ⟨fun h => (bare_mem.1 h).1, fun h => bare_mem.2 ⟨h, by rw [hs]; decide⟩⟩) c
theorem bare_spec {z : Zone} (ho : Ordered z) (n : Bs) : spec (highest (bareZ z)) n = spec (highest z) n :=
  spec_congr (bare_ordered ho) ho bare_cuts n
theorem bare_valid {z : Zone} (hv : validZ z = true) : validZ (bareZ z) = true := by
  have V := val_iff.1 hv
  have ho := V.ord
  have hy := bare_ordered ho
  refine sub_valid hv rfl hy (fun x hx => (bare_mem.1 hx).1) ?_ ?_ ?_
  · obtain ⟨s, hs, hp⟩ := has_iff.1 V.start
    exact has_iff.2 ⟨s, bare_mem.2 ⟨hs, by have : s.set.type = 4 := congrArg Prod.snd hp; omega⟩, hp⟩
  · obtain ⟨s, hs, hp⟩ := has_iff.1 V.serv
    exact has_iff.2 ⟨s, bare_mem.2 ⟨hs, by have : s.set.type = 2 := congrArg Prod.snd hp; omega⟩, hp⟩
  · refine (cuts_rule hy).2 fun s hs => ?_
    rw [bare_spec ho]
    exact V.cut s (bare_mem.1 hs).1
def wv : List Signed → List RSet → List Signed
  | [], _ => []
  | s :: t, nx => if sameNext s t = true then s :: wv t nx else if headIs s nx = true then s :: ((match nx with | y :: _ => [⟨y, []⟩] | [] => []) ++ wv t nx.tail) else s :: wv t nx
theorem wv_cons (s : Signed) (t : List Signed) (nx : List RSet) : wv (s :: t) nx = if sameNext s t = true then s :: wv t nx else if headIs s nx = true then s :: ((match nx with | y :: _ => [⟨y, []⟩] | [] => []) ++ wv t nx.tail) else s :: wv t nx := by
  conv => lhs; rw [wv.eq_def]
theorem weave_wv : ∀ (l : List Signed) (nx : List RSet) (acc : List Signed), weave l nx acc = acc ++ wv l nx
  | [], nx, acc => by rw [weave_nil, wv.eq_def]; simp
  | s :: t, nx, acc => by
    rw [weave_cons, wv_cons]
    split
    · rw [weave_wv t nx]; simp
    · split
      · rw [weave_wv t nx.tail]; cases nx <;> simp
      · rw [weave_wv t nx]; simp
theorem cpl_name {a b : Bs × Int} (h : compareN a.1 b.1 < 0) : cpl a b < 0 := by
  unfold cpl lex
  rw [if_neg (by omega)]
  exact h
theorem cpl_type {a b : Bs × Int} (h : a.1 = b.1) (k : a.2 < b.2) : cpl a b < 0 := by
  unfold cpl lex
  rw [if_pos (by rw [h]; exact (compareN_ord.zero _ _).2 rfl)]
  unfold cmpInt
  simp [k]
theorem cpl_inv {a b : Bs × Int} (h : cpl a b < 0) : compareN a.1 b.1 < 0 ∨ (a.1 = b.1 ∧ a.2 < b.2) := by
  unfold cpl lex at h
  split at h
  · rename_i e
    right
    refine ⟨(compareN_ord.zero _ _).1 e, ?_⟩
    unfold cmpInt at h
    split at h
    · assumption
    · split at h <;> omega
  · exact .inl h
theorem name_lt {a b : Bs × Int} (h : cpl a b < 0) (hne : a.1 ≠ b.1) : compareN a.1 b.1 < 0 := by
  rcases cpl_inv h with h | ⟨h, _⟩
  · exact h
  · exact absurd h hne
theorem name_le {a b : Bs × Int} (h : cpl a b < 0) : compareN a.1 b.1 ≤ 0 := by
  rcases cpl_inv h with h | ⟨h, _⟩
  · omega
  · rw [h]; have := (compareN_ord.zero b.1 b.1).2 rfl; omega
/-- Sets in order, and next sets of some of their names, woven: in order, and all of them. -/
theorem wv_spec : ∀ (l : List Signed) (nx : List RSet), RP l → (∀ s ∈ l, s.set.type < 8) → nx.Pairwise (fun a b => compareN a.name b.name < 0) → (∀ y ∈ nx, y.type = 8 ∧ ∃ s ∈ l, s.set.name = y.name) →
    RP (wv l nx) ∧ ∀ x, x ∈ wv l nx ↔ x ∈ l ∨ ∃ y ∈ nx, x = ⟨y, []⟩
  | [], nx, _, _, _, hw => by
    have : nx = [] := by
      cases nx with
      | nil => rfl
      | cons y t => obtain ⟨_, s, hs, _⟩ := hw y (List.mem_cons_self ..); cases hs
    subst this
    rw [wv.eq_def]
    exact ⟨List.Pairwise.nil, fun x => by simp⟩
  | s :: t, nx, hr, h8, ha, hw => by
    obtain ⟨h1, h2⟩ := List.pairwise_cons.1 hr
    have ht8 : ∀ x ∈ t, x.set.type < 8 := fun x hx => h8 x (List.mem_cons_of_mem _ hx)
    have hs8 := h8 s (List.mem_cons_self ..)
    have L : ∀ y ∈ nx, cpl s.place (y.name, y.type) < 0 := fun y hy => by
      obtain ⟨hy8, w, hwm, hwn⟩ := hw y hy
      rcases List.mem_cons.1 hwm with rfl | hwt
      · exact cpl_type hwn (by show w.set.type < _; omega)
      · rcases cpl_inv (h1 w hwt) with k | ⟨k, _⟩
        · exact cpl_name (by rw [← hwn]; exact k)
        · exact cpl_type (by rw [← hwn]; exact k) (by show s.set.type < _; omega)
    have consRP : ∀ {nx' : List RSet}, (∀ y ∈ nx', y ∈ nx) → (RP (wv t nx') ∧ ∀ x, x ∈ wv t nx' ↔ x ∈ t ∨ ∃ y ∈ nx', x = ⟨y, []⟩) → RP (s :: wv t nx') := fun hsub ih => List.pairwise_cons.2 ⟨fun x hx => by
      rcases (ih.2 x).1 hx with hx | ⟨y, hy, rfl⟩
      · exact h1 x hx
      · exact L y (hsub y hy), ih.1⟩
    rw [wv_cons]
    by_cases hsame : sameNext s t = true
    · rw [if_pos hsame]
      have ih := wv_spec t nx h2 ht8 ha (fun y hy => by
        obtain ⟨hy8, w, hwm, hwn⟩ := hw y hy
        refine ⟨hy8, ?_⟩
        rcases List.mem_cons.1 hwm with rfl | hwt
        · cases t with
          | nil => cases hsame
          | cons x t' => exact ⟨x, List.mem_cons_self .., (by simpa [sameNext] using hsame : x.set.name = w.set.name).trans hwn⟩
        · exact ⟨w, hwt, hwn⟩)
      exact ⟨consRP (fun y hy => hy) ih, fun x => by rw [List.mem_cons, ih.2 x, List.mem_cons]; exact or_assoc.symm⟩
    · rw [if_neg hsame]
      have hlt : ∀ x ∈ t, compareN s.set.name x.set.name < 0 := by
        cases t with
        | nil => intro x hx; cases hx
        | cons x0 t' =>
          have h0 : compareN s.set.name x0.set.name < 0 := name_lt (h1 x0 (List.mem_cons_self ..)) (fun e => hsame (by simp only [sameNext, beq_iff_eq]; exact e.symm))
          intro x hx
          rcases List.mem_cons.1 hx with rfl | hx
          · exact h0
          · exact compareN_ord.lt_le h0 (name_le ((List.pairwise_cons.1 h2).1 x hx))
      cases nx with
      | nil =>
        rw [if_neg (by simp [headIs])]
        have ih := wv_spec t [] h2 ht8 ha (fun y hy => by cases hy)
        exact ⟨consRP (fun y hy => hy) ih, fun x => by rw [List.mem_cons, ih.2 x, List.mem_cons]; exact or_assoc.symm⟩
      | cons y nx =>
        obtain ⟨a1, a2⟩ := List.pairwise_cons.1 ha
        obtain ⟨hy8, w, hwm, hwn⟩ := hw y (List.mem_cons_self ..)
        by_cases hh : headIs s (y :: nx) = true
        · rw [if_pos hh]
          have hyn : y.name = s.set.name := by simpa [headIs] using hh
          have ih := wv_spec t nx h2 ht8 a2 (fun y' hy' => by
            obtain ⟨hy8', w', hwm', hwn'⟩ := hw y' (List.mem_cons_of_mem _ hy')
            refine ⟨hy8', ?_⟩
            rcases List.mem_cons.1 hwm' with rfl | hwt
            · have := a1 y' hy'
              rw [hyn, hwn', (compareN_ord.zero _ _).2 rfl] at this
              omega
            · exact ⟨w', hwt, hwn'⟩)
          have hR := consRP (nx' := nx) (fun y' hy' => List.mem_cons_of_mem _ hy') ih
          obtain ⟨r1, r2⟩ := List.pairwise_cons.1 hR
          refine ⟨?_, fun x => ?_⟩
          · show RP (s :: (([⟨y, []⟩] : List Signed) ++ wv t nx))
            refine List.pairwise_cons.2 ⟨fun x hx => ?_, List.pairwise_cons.2 ⟨fun x hx => ?_, ih.1⟩⟩
            · rcases List.mem_cons.1 hx with rfl | hx
              · exact L y (List.mem_cons_self ..)
              · exact r1 x hx
            · rcases (ih.2 x).1 hx with hx | ⟨y', hy', rfl⟩
              · exact cpl_name (by show compareN y.name x.set.name < 0; rw [hyn]; exact hlt x hx)
              · exact cpl_name (a1 y' hy')
          · show x ∈ s :: (([⟨y, []⟩] : List Signed) ++ wv t nx) ↔ _
            rw [List.mem_cons, List.mem_append, List.mem_singleton, ih.2 x, List.mem_cons]
            constructor
            · rintro (h | h | h | ⟨y', hy', h⟩)
              · exact .inl (.inl h)
              · exact .inr ⟨y, List.mem_cons_self .., h⟩
              · exact .inl (.inr h)
              · exact .inr ⟨y', List.mem_cons_of_mem _ hy', h⟩
            · rintro ((h | h) | ⟨y', hy', h⟩)
              · exact .inl h
              · exact .inr (.inr (.inl h))
              · rcases List.mem_cons.1 hy' with rfl | hy'
                · exact .inr (.inl h)
                · exact .inr (.inr (.inr ⟨y', hy', h⟩))
        · rw [if_neg hh]
          have hyn : y.name ≠ s.set.name := fun e => hh (by simp only [headIs, beq_iff_eq]; exact e)
          have hy0 : compareN s.set.name y.name < 0 := by
            rcases List.mem_cons.1 hwm with rfl | hwt
            · exact absurd hwn.symm hyn
            · rw [← hwn]; exact hlt w hwt
          have ih := wv_spec t (y :: nx) h2 ht8 ha (fun y' hy' => by
            obtain ⟨hy8', w', hwm', hwn'⟩ := hw y' hy'
            refine ⟨hy8', ?_⟩
            rcases List.mem_cons.1 hwm' with rfl | hwt
            · exfalso
              have : compareN w'.set.name y'.name < 0 := by
                rcases List.mem_cons.1 hy' with rfl | hy'
                · exact hy0
                · exact compareN_ord.lt_le hy0 (by have := a1 y' hy'; omega)
              rw [hwn', (compareN_ord.zero _ _).2 rfl] at this
              omega
            · exact ⟨w', hwt, hwn'⟩)
          exact ⟨consRP (fun y hy => hy) ih, fun x => by rw [List.mem_cons, ih.2 x, List.mem_cons]; exact or_assoc.symm⟩
end NP

/-
  Plain laws of the bits of next sets.
-/
set_option linter.unusedSimpArgs false
set_option linter.unusedVariables false
set_option maxRecDepth 100000
namespace NP
open NQ Go
theorem bv_nat (a : Nat) (h : a < 1024) : (BitVec.ofInt 64 (a : Int)).toNat = a := by
  rw [BitVec.ofInt_natCast, BitVec.toNat_ofNat, Nat.mod_eq_of_lt (by omega)]
theorem bOr_nat {a b : Nat} (ha : a < 1024) (hb : b < 1024) : bOr .i64 (a : Int) (b : Int) = ((a ||| b : Nat) : Int) ∧ a ||| b < 1024 := by
  have h : a ||| b < 1024 := Nat.or_lt_two_pow (n := 10) ha hb
  refine ⟨?_, h⟩
  unfold bOr
  show IntKind.i64.wrap (((BitVec.ofInt 64 (a : Int) ||| BitVec.ofInt 64 (b : Int)).toNat : Nat) : Int) = _
  rw [BitVec.toNat_or, bv_nat a ha, bv_nat b hb, wrap_i64 (by omega) (by omega)]
theorem bAnd_nat {a b : Nat} (ha : a < 1024) (hb : b < 1024) : bAnd .i64 (a : Int) (b : Int) = ((a &&& b : Nat) : Int) := by
  have h : a &&& b < 1024 := Nat.lt_of_le_of_lt Nat.and_le_left ha
  unfold bAnd
  show IntKind.i64.wrap (((BitVec.ofInt 64 (a : Int) &&& BitVec.ofInt 64 (b : Int)).toNat : Nat) : Int) = _
  rw [BitVec.toNat_and, bv_nat a ha, bv_nat b hb, wrap_i64 (by omega) (by omega)]
theorem bAndNot_nat {a : Nat} (ha : a < 1024) : bAndNot .i64 (a : Int) 2 = ((a &&& 1021 : Nat) : Int) := by
  have h : a &&& 1021 < 1024 := Nat.lt_of_le_of_lt Nat.and_le_left ha
  unfold bAndNot
  show IntKind.i64.wrap (((BitVec.ofInt 64 (a : Int) &&& ~~~ BitVec.ofInt 64 (2 : Int)).toNat : Nat) : Int) = _
  have e : (BitVec.ofInt 64 (a : Int) &&& ~~~ BitVec.ofInt 64 (2 : Int)).toNat = a &&& 1021 := by
    rw [BitVec.toNat_and, bv_nat a ha]
    apply Nat.eq_of_testBit_eq
    intro i
    rw [Nat.testBit_and, Nat.testBit_and]
    by_cases hi : i < 10
    · have : (~~~ BitVec.ofInt 64 (2 : Int)).toNat.testBit i = Nat.testBit 1021 i := by
        have hd : ∀ j < 10, (~~~ BitVec.ofInt 64 (2 : Int)).toNat.testBit j = Nat.testBit 1021 j := by decide
        exact hd i hi
      rw [this]
    · have : a.testBit i = false := Nat.testBit_lt_two_pow (Nat.lt_of_lt_of_le ha (Nat.pow_le_pow_right (n := 2) (by decide) (by omega : 10 ≤ i)))
      rw [this]; rfl
  rw [e, wrap_i64 (by omega) (by omega)]
theorem bitN_nat {t : Int} (h0 : 0 ≤ t) (h8 : t ≤ 8) : bitN t = ((2 ^ t.toNat : Nat) : Int) ∧ 2 ^ t.toNat < 1024 := by
  obtain ⟨n, rfl⟩ : ∃ n : Nat, t = n := ⟨t.toNat, by omega⟩
  have : n = 0 ∨ n = 1 ∨ n = 2 ∨ n = 3 ∨ n = 4 ∨ n = 5 ∨ n = 6 ∨ n = 7 ∨ n = 8 := by omega
  rcases this with rfl | rfl | rfl | rfl | rfl | rfl | rfl | rfl | rfl <;> exact ⟨by decide, by decide⟩
def bitsGo (l : List Signed) (n : Bs) (b : Nat) : Nat := (l.filter (named n)).foldl (fun b s => b ||| 2 ^ s.set.type.toNat) b
theorem bitsGo_eq : ∀ (l : List Signed) (n : Bs) (b : Nat), b < 1024 → (∀ s ∈ l, 0 ≤ s.set.type ∧ s.set.type ≤ 8) →
    (l.filter (named n)).foldl (fun b s => bOr .i64 b (bitN s.set.type)) (b : Int) = (bitsGo l n b : Int) ∧ bitsGo l n b < 1024 ∧ ∀ i, (bitsGo l n b).testBit i = (b.testBit i || l.any fun s => named n s && s.set.type.toNat == i)
  | [], n, b, hb, _ => ⟨rfl, hb, fun i => by simp [bitsGo]⟩
  | s :: t, n, b, hb, h => by
    obtain ⟨h0, h8⟩ := h s (List.mem_cons_self ..)
    have ht := fun x hx => h x (List.mem_cons_of_mem s hx)
    unfold bitsGo
    rw [List.filter_cons]
    cases hn : named n s with
    | true =>
      obtain ⟨e1, e2⟩ := bitN_nat h0 h8
      obtain ⟨o1, o2⟩ := bOr_nat hb e2
      obtain ⟨i1, i2, i3⟩ := bitsGo_eq t n (b ||| 2 ^ s.set.type.toNat) o2 ht
      unfold bitsGo at i1 i2 i3
      simp only [if_true, List.foldl_cons]
      rw [e1, o1]
      refine ⟨i1, i2, fun i => ?_⟩
      rw [i3 i, Nat.testBit_or, Nat.testBit_two_pow, List.any_cons, hn, Bool.true_and, Bool.or_assoc]
      rfl
    | false =>
      obtain ⟨i1, i2, i3⟩ := bitsGo_eq t n b hb ht
      unfold bitsGo at i1 i2 i3
      simp only [Bool.false_eq_true, if_false]
      refine ⟨i1, i2, fun i => ?_⟩
      rw [i3 i, List.any_cons, hn, Bool.false_and, Bool.false_or]
/-- The bits of a name, as a number. -/
theorem bitsN_nat {l : List Signed} (n : Bs) (h : ∀ s ∈ l, 0 ≤ s.set.type ∧ s.set.type ≤ 8) : ∃ b : Nat, bitsN l n = b ∧ b < 1024 ∧ ∀ i, b.testBit i = l.any fun s => named n s && s.set.type.toNat == i := by
  obtain ⟨i1, i2, i3⟩ := bitsGo_eq l n 0 (by decide) h
  exact ⟨bitsGo l n 0, i1, i2, fun i => by rw [i3 i]; simp⟩
end NP

/-
  Plain laws of the chain: what a next set says; the chain is valid.
-/
set_option linter.unusedSimpArgs false
set_option linter.unusedVariables false
set_option maxRecDepth 100000
namespace NP
open NQ Go
def hasT (l : List Signed) (n : Bs) (i : Nat) : Bool := l.any fun s => named n s && s.set.type.toNat == i
/-- The bits that a next set of a name has. -/
def ownT (y : Zone) (n : Bs) (i : Nat) : Bool := (i == 8) || (hasT y.sets n i && !((i == 1) && (!(n == y.apex) && hasT y.sets n 2)))
theorem bit1021 (i : Nat) (hi : i < 10) : Nat.testBit 1021 i = !(i == 1) := by
  have hd : ∀ j < 10, Nat.testBit 1021 j = !(j == 1) := by decide
  exact hd i hi
theorem and_four (x : Nat) : x &&& 4 = if x.testBit 2 = true then 4 else 0 := by
  apply Nat.eq_of_testBit_eq
  intro i
  rw [Nat.testBit_and, show (4 : Nat) = 2 ^ 2 from rfl, Nat.testBit_two_pow]
  have h4 : Nat.testBit 4 i = decide (2 = i) := by rw [show (4 : Nat) = 2 ^ 2 from rfl, Nat.testBit_two_pow]
  by_cases h : 2 = i
  · subst h
    cases hx : x.testBit 2
    · simp
    · rw [if_pos rfl, h4]; simp
  · cases hx : x.testBit 2
    · simp [h]
    · rw [if_pos rfl, h4]; simp [h]
theorem has9_nat {y : Zone} (h8 : ∀ s ∈ y.sets, 1 ≤ s.set.type ∧ s.set.type < 8) (n : Bs) : ∃ h : Nat, hasN9 y n = h ∧ h < 512 ∧ 256 ≤ h ∧ h % 2 = 0 ∧ ∀ i, h.testBit i = ownT y n i := by
  obtain ⟨b, hb, hb1, hb2⟩ := bitsN_nat (l := y.sets) n (fun s hs => by have := h8 s hs; omega)
  have hb2' : ∀ i, b.testBit i = hasT y.sets n i := hb2
  obtain ⟨o1, o2⟩ := bOr_nat hb1 (show 256 < 1024 by decide)
  have o1' : bOr .i64 (bitsN y.sets n) 256 = ((b ||| 256 : Nat) : Int) := by rw [hb]; exact o1
  have hbit : ∀ i, (b ||| 256).testBit i = ((i == 8) || hasT y.sets n i) := fun i => by
    rw [Nat.testBit_or, hb2', show (256 : Nat) = 2 ^ 8 from rfl, Nat.testBit_two_pow, Bool.or_comm]
    congr 1
    rw [Bool.eq_iff_iff]; simp; omega
  have ge9 : ∀ i, 9 ≤ i → hasT y.sets n i = false := fun i hi => by
    rw [← Bool.not_eq_true]
    intro h
    obtain ⟨s, hs, hp⟩ := List.any_eq_true.1 h
    have := h8 s hs
    simp at hp
    omega
  have no0 : hasT y.sets n 0 = false := by
    rw [← Bool.not_eq_true]
    intro h
    obtain ⟨s, hs, hp⟩ := List.any_eq_true.1 h
    have := h8 s hs
    simp at hp
    omega
  have a4 : (bAnd .i64 (bOr .i64 (bitsN y.sets n) 256) 4 != 0) = hasT y.sets n 2 := by
    have := bAnd_nat o2 (show 4 < 1024 by decide)
    rw [o1', show bAnd .i64 ((b ||| 256 : Nat) : Int) 4 = (((b ||| 256) &&& 4 : Nat) : Int) from this, and_four, hbit 2]
    cases hasT y.sets n 2 <;> rfl
  obtain ⟨h, hh, hbits⟩ : ∃ h : Nat, hasN9 y n = h ∧ ∀ i, h.testBit i = ownT y n i := by
    unfold hasN9
    rw [a4]
    cases hc : (!(n == y.apex) && hasT y.sets n 2) with
    | true =>
      rw [if_pos rfl]
      refine ⟨(b ||| 256) &&& 1021, by rw [o1']; exact bAndNot_nat o2, fun i => ?_⟩
      rw [Nat.testBit_and, hbit i]
      unfold ownT
      rw [hc]
      by_cases hi : i < 10
      · rw [bit1021 i hi]
        by_cases h1 : i = 1
        · subst h1; simp
        · have h1' : (i == 1) = false := by simpa using h1
          rw [h1']; simp
      · have hi8 : (i == 8) = false := by simp; omega
        rw [ge9 i (by omega), hi8]; rfl
    | false =>
      rw [if_neg (by decide)]
      refine ⟨b ||| 256, o1', fun i => ?_⟩
      rw [hbit i]
      unfold ownT
      rw [hc]; simp
  refine ⟨h, hh, ?_, ?_, ?_, hbits⟩
  · refine Nat.lt_pow_two_of_testBit (n := 9) h fun i hi => ?_
    rw [hbits i]
    unfold ownT
    have hi8 : (i == 8) = false := by simp; omega
    rw [hi8, ge9 i hi]; rfl
  · refine Nat.ge_two_pow_of_testBit (i := 8) ?_
    rw [hbits 8]; rfl
  · have : h.testBit 0 = false := by
      rw [hbits 0]; unfold ownT; rw [no0]; rfl
    rw [Nat.testBit_zero] at this
    simp at this
    omega
end NP

/-
  Plain laws of the chain: it is valid.
-/
set_option linter.unusedSimpArgs false
set_option linter.unusedVariables false
set_option maxRecDepth 100000
namespace NP
open NQ Go
theorem setB_first0 {s : RSet} (h : setB s = true) : ∃ d, s.data[0]? = some d ∧ validDatum (ruleOf s.type) d = true := by
  obtain ⟨d, hd⟩ : ∃ d, s.data[0]? = some d := by
    unfold setB at h; simp only [Bool.and_eq_true, Bool.not_eq_true', Bool.or_eq_false_iff, Bool.not_eq_false'] at h
    have := h.1.1.2
    simp [within] at this
    exact ⟨_, List.getElem?_eq_getElem (by omega)⟩
  refine ⟨d, hd, ?_⟩
  unfold setB at h
  rw [Bool.and_eq_true] at h
  have := List.all_eq_true.1 h.2 0 (List.mem_range.2 (List.getElem?_eq_some_iff.1 hd).1)
  rw [datAt_eq hd hd] at this
  unfold datBad at this
  simp at this
  exact this
theorem life_small : ∀ (l : List Signed) (b : Int), 0 ≤ b ∧ b ≤ 100000 → (∀ s ∈ l, setB s.set = true) →
    0 ≤ l.foldl (fun b s => if (s.set.type == 4) = true then ((s.set.data[0]?).getD zeroDt).m else b) b ∧ l.foldl (fun b s => if (s.set.type == 4) = true then ((s.set.data[0]?).getD zeroDt).m else b) b ≤ 100000
  | [], b, hb, _ => hb
  | s :: t, b, hb, h => by
    rw [List.foldl_cons]
    refine life_small t _ ?_ (fun x hx => h x (List.mem_cons_of_mem _ hx))
    split
    · rename_i h4
      obtain ⟨d, hd, hv⟩ := setB_first0 (h s (List.mem_cons_self ..))
      have ht : s.set.type = 4 := by simpa using h4
      rw [hd]
      rw [ht] at hv
      unfold validDatum at hv
      simp [ruleOf, within] at hv
      show 0 ≤ d.m ∧ d.m ≤ 100000
      omega
    · exact hb
theorem lifeN_small {l : List Signed} (h : ∀ s ∈ l, setB s.set = true) : 0 ≤ lifeN l ∧ lifeN l ≤ 100000 := life_small l 0 (by omega) h
theorem nextS_at {y : Zone} {ns : List Bs} {i : Nat} {n : Bs} (h : ns[i]? = some n) : ∃ to, to ∈ ns ∧ nextS y ns i = ⟨n, 8, lifeN y.sets, [⟨to, hasN9 y n, 0⟩]⟩ ∧ ns[(i + 1) % ns.length]? = some to := by
  have hl := (List.getElem?_eq_some_iff.1 h).1
  have hm : (i + 1) % ns.length < ns.length := Nat.mod_lt _ (by omega)
  refine ⟨ns[(i + 1) % ns.length], List.getElem_mem hm, ?_, List.getElem?_eq_getElem hm⟩
  unfold nextS
  rw [h, List.getElem?_eq_getElem hm]
  rfl
theorem next_setB {n to : Bs} {life h : Int} (hn : validN n = true) (ht : validN to = true) (hl : 0 ≤ life ∧ life ≤ 100000) (h0 : 2 ≤ h) (h1 : h ≤ 510) (h2 : h.tmod 2 = 0) : setB ⟨n, 8, life, [⟨to, h, 0⟩]⟩ = true := by
  have hr : ruleOf 8 = ⟨2, 2, 510, 0, 0, true, false, true⟩ := rfl
  unfold setB
  simp only [hn, hr]
  have hd : validDatum ⟨2, 2, 510, 0, 0, true, false, true⟩ ⟨to, h, 0⟩ = true := by
    unfold validDatum
    simp [within, validText, ht, h0, h1, h2]
  have hA : (List.range ([⟨to, h, 0⟩] : List Datum).length).all (datAt ⟨2, 2, 510, 0, 0, true, false, true⟩ [⟨to, h, 0⟩]) = true := by
    show (List.range 1).all _ = true
    simp [datAt, datBad, hd, List.range_succ]
  rw [hA]
  simp [within, hl.1, hl.2]
/-- The chain of a valid zone. -/
def chZ (z : Zone) : Zone := ⟨z.apex, wv (bareZ z).sets (nextsR (bareZ z) (namesOf (bareZ z)))⟩
theorem nexts_name (y : Zone) (ns : List Bs) : (nextsR y ns).map RSet.name = ns := by
  apply List.ext_getElem?
  intro i
  rw [List.getElem?_map]
  by_cases h : i < ns.length
  · rw [nexts_get h, List.getElem?_eq_getElem h]
    show some ((ns[i]?).getD []) = _
    rw [List.getElem?_eq_getElem h]; rfl
  · rw [List.getElem?_eq_none (by rw [nexts_len]; omega), List.getElem?_eq_none (by omega)]; rfl
/-- What the next sets of a valid zone without next sets are. -/
theorem nexts_mem {y : Zone} (hv : validZ y = true) (h8 : ∀ s ∈ y.sets, s.set.type < 8) {x : RSet} (hx : x ∈ nextsR y (namesOf y)) :
    ∃ n ∈ namesOf y, ∃ to ∈ namesOf y, x = ⟨n, 8, lifeN y.sets, [⟨to, hasN9 y n, 0⟩]⟩ ∧ setB x = true := by
  have ho := validZ_ordered hv
  obtain ⟨hA, hm⟩ := names_spec hv
  have hvn : ∀ n ∈ namesOf y, validN n = true := fun n hn => by
    obtain ⟨s, hs, rfl, _⟩ := (hm n).1 hn
    exact ho.name s hs
  obtain ⟨i, hi⟩ := List.getElem?_of_mem hx
  have hl : i < (namesOf y).length := by rw [← nexts_len y]; exact (List.getElem?_eq_some_iff.1 hi).1
  rw [nexts_get hl] at hi
  obtain ⟨n, hn⟩ : ∃ n, (namesOf y)[i]? = some n := ⟨_, List.getElem?_eq_getElem hl⟩
  obtain ⟨to, hto, he, _⟩ := nextS_at (y := y) hn
  have hnm := List.mem_of_getElem? hn
  obtain ⟨h, e1, e2, e3, e4, _⟩ := has9_nat (fun s hs => ⟨(setB_type (ho.set s hs)).1, h8 s hs⟩) n
  cases hi
  refine ⟨n, hnm, to, hto, he, ?_⟩
  rw [he, e1]
  exact next_setB (hvn n hnm) (hvn to hto) (lifeN_small ho.set) (by omega) (by omega) (by rw [Int.tmod_eq_emod_of_nonneg (by omega)]; omega)
end NP

/-
  Law 09's head and what it calls, on plain data: Denied whole, head.
-/
set_option linter.unusedSimpArgs false
set_option linter.unusedVariables false
set_option maxRecDepth 100000
namespace NP
open NQ Go
theorem next_first {apex : Bs} {s : RSet} (hb : setB s = true) (hn : nextB apex s = true) : ∃ d, s.data[0]? = some d ∧ validN d.text = true := by
  obtain ⟨d, hd, hv⟩ := setB_first0 hb
  refine ⟨d, hd, ?_⟩
  have ht : s.type = 8 := by
    unfold nextB at hn
    simp only [Bool.and_eq_true, beq_iff_eq] at hn
    exact hn.1.1
  have hr : ruleOf 8 = ⟨2, 2, 510, 0, 0, true, false, true⟩ := rfl
  rw [ht, hr] at hv
  unfold validDatum validText at hv
  simp at hv
  exact hv.2
def next9 (n to : Bs) (b : Int) : RSet := ⟨n, 8, 30, [⟨to, b, 0⟩]⟩
def n91 : RSet := next9 [120] [119, 46, 120] 276
def n92 : RSet := next9 [119, 46, 120] [97, 46, 121, 46, 120] 258
def n93 : RSet := next9 [97, 46, 121, 46, 120] [120] 288
def c9 : Zone := ⟨[120], [exS [120] 2 ⟨[97, 46, 110, 115], 0, 0⟩, exS [120] 4 ⟨[], 1, 30⟩, ⟨n91, []⟩, exS [119, 46, 120] 1 ⟨[], 7, 0⟩, ⟨n92, []⟩, exS [97, 46, 121, 46, 120] 5 ⟨[116], 0, 0⟩, ⟨n93, []⟩]⟩
def qYX : Quest := ⟨[121, 46, 120], 1⟩
def qXX : Quest := ⟨[120, 46, 120], 1⟩
def qWX : Quest := ⟨[119, 46, 120], 1⟩
end NP
namespace Go.Proofs.YtjecmfajdofamaaGreatDoor
open NQ Go NP Go.RowKit

theorem deniedX_fn (apex : Bs) (q : Quest) (l : List RSet) (hl : l.length ≤ 100000) :
    NQ.Fn cx 32 [.str apex, .agg (questD q), .slice 4 (l.map setD)] (.tuple [.d (.int .i64 (deniedR apex q l).1), .d (.int .i64 (deniedR apex q l).2)]) [] := by
  refine denied_fn apex q l hl fun hq hv => ?_
  obtain ⟨qn, ty⟩ := q
  have hq' : validN qn = true ∧ 1 ≤ ty ∧ ty ≤ 8 := by
    unfold questB at hq
    simp only [Bool.and_eq_true, decide_eq_true_eq] at hq
    exact ⟨hq.1.1, hq.1.2, hq.2⟩
  obtain ⟨t, rfl⟩ : ∃ t : Nat, ty = t := ⟨ty.toNat, by omega⟩
  refine below_fn apex qn t _ _ (Nat.le_trans (List.length_filter_le _ _) hl) (Nat.le_trans (List.length_filter_le _ _) (Nat.le_trans (List.length_filter_le _ _) (Nat.le_trans (List.length_filter_le _ _) hl))) (fun s hs => ?_) hq'.1 (fun s hs => ?_)
  · obtain ⟨h1, h2⟩ := List.mem_filter.1 hs
    obtain ⟨d, hd, _⟩ := next_first (hv s h1) h2
    exact ⟨d, hd⟩
  · obtain ⟨h0, _⟩ := List.mem_filter.1 hs
    obtain ⟨h0, _⟩ := List.mem_filter.1 h0
    obtain ⟨h1, h2⟩ := List.mem_filter.1 h0
    exact ⟨setB_valid (hv s h1), next_first (hv s h1) h2⟩
theorem hnext_fn (n to : Bs) (b : Int) : NQ.Fn cx 58 [.str n, .str to, .int .i64 b] (.agg ((setD (next9 n to b)).map .d)) [] := by
  refine fn_of_vc tyOk mixed Tryz.func58 (by kernel_rfl) rfl (Nat.le_of_ble_eq_true rfl) ?_; conv => whnf
  exact ret_data rfl rfl
theorem hq_fn (n : Bs) : NQ.Fn cx 60 [.str n] (.agg ((questD ⟨n, 1⟩).map .d)) [] := by
  refine fn_of_vc tyOk mixed Tryz.func60 (by kernel_rfl) rfl (Nat.le_of_ble_eq_true rfl) ?_; conv => whnf
  exact ret_data rfl rfl
noncomputable def cxH9 : Cx := { cx with bld := [30, 55, 149, 152] }
theorem tyH9 : TyOk cxH9 := tyOk
theorem mixedH9 : cxH9.P.follows .mixedOrders = true := mixed
set_option maxHeartbeats 2000000 in
theorem head9_fn : NQ.Fn cx 15 [] (.d (.bool true)) [] := by
  have e1 : chainR exZ = (c9, 0) := by kernel_rfl
  have d1 : deniedR [120] qYX [n92] = (5, 0) := by kernel_rfl
  have d2 : deniedR [120] qXX [n91, n92] = (6, 0) := by kernel_rfl
  have d3 : deniedR [120] qXX [n92] = (0, 0) := by kernel_rfl
  have e2 : covers9R [120] n93 [122, 46, 120] = (true, 0) := by kernel_rfl
  have p1 : proofR c9 qXX = ([⟨n92, []⟩, ⟨n91, []⟩], 0) := by kernel_rfl
  have p2 : proofR c9 qWX = ([], 6) := by kernel_rfl
  have fC := chain_fn exZ; rw [e1] at fC
  have f1 := deniedX_fn [120] qYX [n92] (by decide); rw [d1] at f1
  have f2 := deniedX_fn [120] qXX [n91, n92] (by decide); rw [d2] at f2
  have f3 := deniedX_fn [120] qXX [n92] (by decide); rw [d3] at f3
  have fV := coversX_fn [120] n93 [122, 46, 120]; rw [e2] at fV
  have g1 := proof9_fn c9 qXX; rw [p1] at g1
  have g2 := proof9_fn c9 qWX; rw [p2] at g2
  have fS := sets9_fn [⟨n92, []⟩, ⟨n91, []⟩] (by decide)
  have s1 := sameSets_fn [n91, n92, n93] [n91, n92, n93] (by decide) (by decide)
  rw [decide_eq_true rfl] at s1
  have s2 := sameSets_fn [n92, n91] [n92, n91] (by decide) (by decide)
  rw [decide_eq_true rfl] at s2
  clear e1 d1 d2 d3 e2 p1 p2
  show NQ.Fn cxH9 _ _ _ _
  refine fn_of_vcz (fun _ => []) tyH9 mixedH9 Tryz.func15 (by kernel_rfl) rfl (Nat.le_of_ble_eq_true rfl) ?_
  conv => whnf
  (refine ⟨_, _, example9_fn, ?_⟩; conv => whnf)
  (refine ⟨_, _, fC, ?_⟩; conv => whnf)
  repeat' (first
    | (refine ⟨_, _, hnext_fn _ _ _, ?_⟩; conv => whnf)
    | (refine ⟨_, _, hq_fn _, ?_⟩; conv => whnf)
    | (refine ⟨(by kernel_rfl : planOk _ _ = true), ?_⟩; conv => whnf)
    | (refine ⟨_, _, s1, ?_⟩; conv => whnf)
    | (refine ⟨_, _, f1, ?_⟩; conv => whnf)
    | (refine ⟨_, _, f2, ?_⟩; conv => whnf)
    | (refine ⟨_, _, f3, ?_⟩; conv => whnf)
    | (refine ⟨_, _, fV, ?_⟩; conv => whnf)
    | (refine ⟨_, _, g1, ?_⟩; conv => whnf)
    | (refine ⟨_, _, g2, ?_⟩; conv => whnf)
    | (refine ⟨_, _, fS, ?_⟩; conv => whnf)
    | (refine ⟨_, _, s2, ?_⟩; conv => whnf)
    | (refine ⟨by decide, by decide, by decide, ?_⟩; conv => whnf)
    | (refine ⟨by decide, setD _, rfl, ?_⟩; conv => whnf)
    | (refine ⟨by decide, signedD _, rfl, ?_⟩; conv => whnf)
    | exact ret_data rfl rfl
    | fail)
end Go.Proofs.YtjecmfajdofamaaGreatDoor

/-
  Plain laws of the chain: it is valid, and without next sets it is the zone without next sets.
-/
set_option linter.unusedSimpArgs false
set_option linter.unusedVariables false
set_option maxRecDepth 100000
namespace NP
open NQ Go
theorem bare_lt {z : Zone} (ho : Ordered z) : ∀ s ∈ (bareZ z).sets, s.set.type < 8 := fun s hs => by
  obtain ⟨h1, h2⟩ := bare_mem.1 hs
  have := setB_type (ho.set s h1)
  omega
theorem ch_spec {z : Zone} (hv : validZ z = true) : RP (chZ z).sets ∧ ∀ x, x ∈ (chZ z).sets ↔ x ∈ (bareZ z).sets ∨ ∃ y ∈ nextsR (bareZ z) (namesOf (bareZ z)), x = ⟨y, []⟩ := by
  have ho := validZ_ordered hv
  have hvb := bare_valid hv
  have hob := bare_ordered ho
  obtain ⟨hA, hm⟩ := names_spec hvb
  refine wv_spec (bareZ z).sets _ hob.rising.pw (bare_lt ho) ?_ (fun y hy => ?_)
  · have : Asc ((nextsR (bareZ z) (namesOf (bareZ z))).map RSet.name) := by rw [nexts_name]; exact hA
    exact List.pairwise_map.1 this
  · obtain ⟨n, hn, to, _, rfl, _⟩ := nexts_mem hvb (bare_lt ho) hy
    obtain ⟨s, hs, hsn, _⟩ := (hm n).1 hn
    exact ⟨rfl, s, hs, hsn⟩
theorem ch_bare {z : Zone} (hv : validZ z = true) : bareZ (chZ z) = bareZ z := by
  have ho := validZ_ordered hv
  obtain ⟨h1, h2⟩ := ch_spec hv
  have hs : (bareZ (chZ z)).sets = (bareZ z).sets := by
    refine RP.ext (h1.filter _) (ho.rising.pw.filter _) fun x => ?_
    show x ∈ (bareZ (chZ z)).sets ↔ x ∈ (bareZ z).sets
    rw [bare_mem, h2 x]
    constructor
    · rintro ⟨h | ⟨y, hy, rfl⟩, hne⟩
      · exact h
      · obtain ⟨n, _, to, _, rfl, _⟩ := nexts_mem (bare_valid hv) (bare_lt ho) hy
        exact absurd rfl hne
    · intro h
      exact ⟨.inl h, (bare_mem.1 h).2⟩
  show (⟨z.apex, (bareZ (chZ z)).sets⟩ : Zone) = ⟨z.apex, (bareZ z).sets⟩
  rw [hs]
theorem filter_two {α : Type} (p : α → Bool) : ∀ (l : List α), l.length = (l.filter p).length + (l.filter fun x => !p x).length
  | [] => rfl
  | x :: t => by
    have := filter_two p t
    rw [List.filter_cons, List.filter_cons]
    cases p x
    · simp; omega
    · simp; omega
theorem ch_len {z : Zone} (hv : validZ z = true) : (chZ z).sets.length = (bareZ z).sets.length + (namesOf (bareZ z)).length := by
  have ho := validZ_ordered hv
  obtain ⟨h1, h2⟩ := ch_spec hv
  have e1 : ((chZ z).sets.filter notNext) = (bareZ z).sets := congrArg Zone.sets (ch_bare hv)
  have hA := (names_spec (bare_valid hv)).1
  have hP : RP ((nextsR (bareZ z) (namesOf (bareZ z))).map fun y => (⟨y, []⟩ : Signed)) := by
    rw [RP, List.pairwise_map]
    have : Asc ((nextsR (bareZ z) (namesOf (bareZ z))).map RSet.name) := by rw [nexts_name]; exact hA
    exact List.Pairwise.imp (fun {a b} h => cpl_name h) (List.pairwise_map.1 this)
  have e2 : ((chZ z).sets.filter fun s => !notNext s) = (nextsR (bareZ z) (namesOf (bareZ z))).map fun y => (⟨y, []⟩ : Signed) := by
    refine RP.ext (h1.filter _) hP fun x => ?_
    rw [List.mem_filter, h2 x, List.mem_map]
    constructor
    · rintro ⟨h | ⟨y, hy, rfl⟩, hne⟩
      · have := (bare_mem.1 h).2
        simp [notNext] at hne
        exact absurd hne this
      · exact ⟨y, hy, rfl⟩
    · rintro ⟨y, hy, rfl⟩
      obtain ⟨n, _, to, _, rfl, _⟩ := nexts_mem (bare_valid hv) (bare_lt ho) hy
      exact ⟨.inr ⟨_, hy, rfl⟩, rfl⟩
  have := filter_two notNext (chZ z).sets
  rw [e1, e2, List.length_map, nexts_len] at this
  exact this
theorem ch_valid {z : Zone} (hv : validZ z = true) (hlen : (bareZ z).sets.length + (namesOf (bareZ z)).length ≤ 20000) : validZ (chZ z) = true := by
  have V := val_iff.1 hv
  have ho := V.ord
  have hvb := bare_valid hv
  obtain ⟨h1, h2⟩ := ch_spec hv
  obtain ⟨_, hm⟩ := names_spec hvb
  have hob := bare_ordered ho
  have inz : ∀ s, s ∈ (bareZ z).sets → s ∈ z.sets := fun s hs => (bare_mem.1 hs).1
  have hord : Ordered (chZ z) := by
    refine ⟨ho.apex, ho.tame, by rw [ch_len hv]; omega, fun s hs => ?_, fun s hs => ?_, RP.rising h1⟩
    · rcases (h2 s).1 hs with h | ⟨y, hy, rfl⟩
      · exact ho.set s (inz s h)
      · obtain ⟨n, _, to, _, _, hb⟩ := nexts_mem hvb (bare_lt ho) hy
        exact hb
    · rcases (h2 s).1 hs with h | ⟨y, hy, rfl⟩
      · exact ho.under s (inz s h)
      · obtain ⟨n, hn, to, _, rfl, _⟩ := nexts_mem hvb (bare_lt ho) hy
        obtain ⟨s0, hs0, rfl, _⟩ := (hm n).1 hn
        exact ho.under s0 (inz s0 hs0)
  have hcuts : ∀ c, c ∈ cutsL (chZ z).apex (chZ z).sets ↔ c ∈ cutsL z.apex z.sets := fun c => cutsL_congr (z := z) (y := chZ z) rfl (fun s hs => by
    rw [h2 s, bare_mem]
    constructor
    · rintro (h | ⟨y, hy, rfl⟩)
      · exact h.1
      · obtain ⟨n, _, to, _, rfl, _⟩ := nexts_mem hvb (bare_lt ho) hy
        exact absurd hs (by show (8 : Int) ≠ 2; decide)
    · intro h; exact .inl ⟨h, by rw [hs]; decide⟩) c
  have hsp : ∀ n, spec (highest (chZ z)) n = spec (highest z) n := fun n => spec_congr hord ho hcuts n
  have mk : ∀ t, t ≠ 8 → hasS z.sets ⟨z.apex, t⟩ = true → hasS (chZ z).sets ⟨z.apex, t⟩ = true := fun t ht h => by
    obtain ⟨s, hs, hp⟩ := has_iff.1 h
    have e : s.set.type = t := congrArg Prod.snd hp
    exact has_iff.2 ⟨s, (h2 s).2 (.inl (bare_mem.2 ⟨hs, by rw [e]; exact ht⟩)), hp⟩
  refine val_iff.2 ⟨hord, mk 4 (by decide) V.start, mk 2 (by decide) V.serv, fun s hs => ?_, fun s hs x hx h3 hn => ?_, fun s hs => ?_, fun s hs => ?_, fun s hs => ?_⟩
  · rcases (h2 s).1 hs with h | ⟨y, hy, rfl⟩
    · exact V.fit s (inz s h)
    · obtain ⟨n, _, to, _, rfl, _⟩ := nexts_mem hvb (bare_lt ho) hy
      rfl
  · rcases (h2 s).1 hs with h | ⟨y, hy, rfl⟩
    · rcases (h2 x).1 hx with hx | ⟨y, hy, rfl⟩
      · exact V.ali s (inz s h) x (inz x hx) h3 hn
      · obtain ⟨n, _, to, _, rfl, _⟩ := nexts_mem hvb (bare_lt ho) hy
        exact .inr rfl
    · obtain ⟨n, _, to, _, rfl, _⟩ := nexts_mem hvb (bare_lt ho) hy
      exact absurd h3 (by show (8 : Int) ≠ 3; decide)
  · rw [hsp]
    rcases (h2 s).1 hs with h | ⟨y, hy, rfl⟩
    · exact V.cut s (inz s h)
    · obtain ⟨n, hn, to, _, rfl, _⟩ := nexts_mem hvb (bare_lt ho) hy
      obtain ⟨s0, hs0, rfl, hsp0⟩ := (hm n).1 hn
      rw [bare_spec ho] at hsp0
      unfold cutBad
      rcases hsp0 with e | e
      · show (if (spec (highest z) s0.set.name == []) = true then _ else _) = _
        rw [e]; rfl
      · show (if (spec (highest z) s0.set.name == []) = true then ((8 : Int) == 6) else if (spec (highest z) s0.set.name == s0.set.name) = true then _ else _) = _
        rw [e]
        split
        · rfl
        · rw [if_pos (by simp)]; rfl
  · rw [hsp]
    rcases (h2 s).1 hs with h | ⟨y, hy, rfl⟩
    · exact V.sig s (inz s h)
    · unfold sgnBad; simp
  · rcases (h2 s).1 hs with h | ⟨y, hy, rfl⟩
    · exact V.form s (inz s h)
    · rfl
end NP

/-
  Plain laws of the chain: Chain gives it; what is found in it.
-/
set_option linter.unusedSimpArgs false
set_option linter.unusedVariables false
set_option maxRecDepth 100000
namespace NP
open NQ Go
theorem chain_eq {z : Zone} (hv : validZ z = true) (hlen : (bareZ z).sets.length + (namesOf (bareZ z)).length ≤ 20000) : chainR z = (chZ z, 0) := by
  have hvb := bare_valid hv
  have hN : namesR (bareZ z) = (namesOf (bareZ z), 0) := by rw [namesR, if_neg (by simp [hvb])]
  unfold chainR
  rw [if_neg (by simp [hv]), hN, if_neg (by simp), if_neg (by simp; omega), weave_wv, List.nil_append]
  rfl
theorem names_le (y : Zone) : (namesOf y).length ≤ y.sets.length := by
  have h := nam_length (y.sets.zip (behindOf y)) []
  have h2 : (namesOf y).length ≤ ((y.sets.zip (behindOf y))).length := by simpa [namesOf] using h
  rw [List.length_zip] at h2
  omega
theorem chain_small {z : Zone} (hv : validZ z = true) (hlen : z.sets.length ≤ 10000) : chainR z = (chZ z, 0) ∧ validZ (chZ z) = true := by
  have h1 := names_le (bareZ z)
  have h2 : (bareZ z).sets.length ≤ z.sets.length := List.length_filter_le _ _
  exact ⟨chain_eq hv (by omega), ch_valid hv (by omega)⟩
/-- The cuts of the chain are those of the zone. -/
theorem ch_cuts {z : Zone} (hv : validZ z = true) (c : Bs) : c ∈ cutsL (chZ z).apex (chZ z).sets ↔ c ∈ cutsL z.apex z.sets := by
  have ho := validZ_ordered hv
  obtain ⟨_, h2⟩ := ch_spec hv
  refine cutsL_congr (z := z) (y := chZ z) rfl (fun s hs => ?_) c
  rw [h2 s, bare_mem]
  constructor
  · rintro (h | ⟨y, hy, rfl⟩)
    · exact h.1
    · obtain ⟨n, _, to, _, rfl, _⟩ := nexts_mem (bare_valid hv) (bare_lt ho) hy
      exact absurd hs (by show (8 : Int) ≠ 2; decide)
  · intro h; exact .inl ⟨h, by rw [hs]; decide⟩
end NP

/-
  Plain laws of the chain: what each next set says, and what lies between its name and its next name.
-/
set_option linter.unusedSimpArgs false
set_option linter.unusedVariables false
set_option maxRecDepth 100000
namespace NP
open NQ Go
theorem cN_self (a : Bs) : compareN a a = 0 := (compareN_ord.zero a a).2 rfl
theorem cN_zero {a b : Bs} (h : compareN a b = 0) : a = b := (compareN_ord.zero a b).1 h
theorem cN_antisymm {a b : Bs} (h : compareN a b ≤ 0) (k : compareN b a ≤ 0) : a = b := by have := compareN_ord.anti a b; exact cN_zero (by omega)
/-- The names with next sets in the chain of a zone. -/
def nsZ (z : Zone) : List Bs := namesOf (bareZ z)
/-- The next sets in the chain of a zone. -/
def nxZ (z : Zone) : List RSet := nextsR (bareZ z) (nsZ z)
theorem asc_lt {l : List Bs} (h : Asc l) {i j : Nat} {a b : Bs} (ha : l[i]? = some a) (hb : l[j]? = some b) (hij : i < j) : compareN a b < 0 := by
  obtain ⟨h1, rfl⟩ := List.getElem?_eq_some_iff.1 ha
  obtain ⟨h2, rfl⟩ := List.getElem?_eq_some_iff.1 hb
  exact List.pairwise_iff_getElem.1 h i j h1 h2 hij
theorem asc_le {l : List Bs} (h : Asc l) {i j : Nat} {a b : Bs} (ha : l[i]? = some a) (hb : l[j]? = some b) (hij : i ≤ j) : compareN a b ≤ 0 := by
  rcases Nat.lt_or_eq_of_le hij with k | rfl
  · have := asc_lt h ha hb k; omega
  · rw [ha] at hb; cases hb; rw [cN_self]; omega
theorem asc_inj {l : List Bs} (h : Asc l) {i j : Nat} {a : Bs} (ha : l[i]? = some a) (hb : l[j]? = some a) : i = j := by
  rcases Nat.lt_trichotomy i j with k | k | k
  · have := asc_lt h ha hb k; rw [cN_self] at this; omega
  · exact k
  · have := asc_lt h hb ha k; rw [cN_self] at this; omega
theorem ns_asc {z : Zone} (hv : validZ z = true) : Asc (nsZ z) := (names_spec (bare_valid hv)).1
theorem ns_first {z : Zone} (hv : validZ z = true) : (nsZ z)[0]? = some z.apex := by
  obtain ⟨t, ht⟩ := names_first (bare_valid hv)
  show (namesOf (bareZ z))[0]? = _
  rw [ht]; rfl
theorem ns_iff {z : Zone} (hv : validZ z = true) (n : Bs) : n ∈ nsZ z ↔ ∃ s ∈ (bareZ z).sets, s.set.name = n ∧ (spec (highest z) n = [] ∨ spec (highest z) n = n) := by
  rw [nsZ, (names_spec (bare_valid hv)).2 n, bare_spec (validZ_ordered hv)]
theorem ns_set {z : Zone} (hv : validZ z = true) {n : Bs} (hn : n ∈ nsZ z) : validN n = true ∧ underN n z.apex = true := by
  have ho := validZ_ordered hv
  obtain ⟨s, hs, rfl, _⟩ := (ns_iff hv n).1 hn
  have := (bare_mem.1 hs).1
  exact ⟨ho.name s this, set_under ho this⟩
/-- What a next set of the chain says. -/
structure NxS (z : Zone) (y : RSet) (d : Datum) : Prop where
  type : y.type = 8
  name : y.name ∈ nsZ z
  data : y.data = [d]
  to : d.text ∈ nsZ z
  gap : ∀ m ∈ nsZ z, compareN m y.name ≤ 0 ∨ (d.text ≠ z.apex ∧ compareN d.text m ≤ 0)
  rise : d.text ≠ z.apex → compareN y.name d.text < 0
  num : ∃ h : Nat, d.n = h ∧ h < 512 ∧ ∀ i, h.testBit i = ownT (bareZ z) y.name i
  ok : setB y = true
theorem nx_at {z : Zone} (hv : validZ z = true) {i : Nat} {n : Bs} (hn : (nsZ z)[i]? = some n) : ∃ d, NxS z (nextS (bareZ z) (nsZ z) i) d ∧ (nextS (bareZ z) (nsZ z) i).name = n ∧ (nsZ z)[(i + 1) % (nsZ z).length]? = some d.text := by
  have ho := validZ_ordered hv
  have hl := (List.getElem?_eq_some_iff.1 hn).1
  obtain ⟨to, hto, he, hat⟩ := nextS_at (y := bareZ z) hn
  obtain ⟨h, e1, e2, _, _, e5⟩ := has9_nat (y := bareZ z) (fun s hs => ⟨(setB_type (ho.set s (bare_mem.1 hs).1)).1, bare_lt ho s hs⟩) n
  have hA := ns_asc hv
  have h0 := ns_first hv
  have hmem : nextS (bareZ z) (nsZ z) i ∈ nxZ z := List.mem_of_getElem? (nexts_get hl)
  obtain ⟨n', _, to', _, _, hok⟩ := nexts_mem (bare_valid hv) (bare_lt ho) hmem
  rw [he] at hok ⊢
  refine ⟨⟨to, hasN9 (bareZ z) n, 0⟩, ⟨rfl, List.mem_of_getElem? hn, rfl, hto, fun m hm => ?_, fun hne => ?_, ⟨h, e1, e2, e5⟩, hok⟩, rfl, hat⟩
  · obtain ⟨j, hj⟩ := List.getElem?_of_mem hm
    by_cases hji : j ≤ i
    · exact .inl (asc_le hA hj hn hji)
    · have hjl := (List.getElem?_eq_some_iff.1 hj).1
      rw [Nat.mod_eq_of_lt (by omega)] at hat
      refine .inr ⟨fun e => ?_, asc_le hA hat hj (by omega)⟩
      have e' : to = z.apex := e
      subst e'
      have := asc_inj hA hat h0
      omega
  · have hne' : to ≠ z.apex := hne
    by_cases hil : i + 1 < (nsZ z).length
    · rw [Nat.mod_eq_of_lt hil] at hat
      exact asc_lt hA hn hat (by omega)
    · have e : i + 1 = (nsZ z).length := by omega
      rw [e, Nat.mod_self, h0] at hat
      cases hat
      exact absurd rfl hne'
theorem nx_of {z : Zone} (hv : validZ z = true) {y : RSet} (hy : y ∈ nxZ z) : ∃ d, NxS z y d := by
  obtain ⟨i, hi⟩ := List.getElem?_of_mem hy
  have hl : i < (nsZ z).length := by have := (List.getElem?_eq_some_iff.1 hi).1; unfold nxZ at this; rwa [nexts_len] at this
  unfold nxZ at hi
  rw [nexts_get hl] at hi
  cases hi
  obtain ⟨d, h, _⟩ := nx_at hv (List.getElem?_eq_getElem hl)
  exact ⟨d, h⟩
theorem nx_for {z : Zone} (hv : validZ z = true) {n : Bs} (hn : n ∈ nsZ z) : ∃ y ∈ nxZ z, y.name = n := by
  have : n ∈ (nxZ z).map RSet.name := by unfold nxZ; rw [nexts_name]; exact hn
  obtain ⟨y, hy, e⟩ := List.mem_map.1 this
  exact ⟨y, hy, e⟩
/-- The sets of the chain. -/
theorem ch_mem {z : Zone} (hv : validZ z = true) (x : Signed) : x ∈ (chZ z).sets ↔ x ∈ (bareZ z).sets ∨ ∃ y ∈ nxZ z, x = ⟨y, []⟩ := (ch_spec hv).2 x
/-- What a next set has: the types of the sets of its name; but not the glue of a cut. -/
theorem ch_has8 {z : Zone} (hv : validZ z = true) (n : Bs) : hasS (chZ z).sets ⟨n, 8⟩ = true ↔ n ∈ nsZ z := by
  rw [has_iff]
  constructor
  · rintro ⟨s, hs, hp⟩
    rcases (ch_mem hv s).1 hs with h | ⟨y, hy, rfl⟩
    · exact absurd (congrArg Prod.snd hp) (bare_mem.1 h).2
    · obtain ⟨d, hd⟩ := nx_of hv hy
      have : y.name = n := congrArg Prod.fst hp
      rw [← this]; exact hd.name
  · intro h
    obtain ⟨y, hy, e⟩ := nx_for hv h
    obtain ⟨d, hd⟩ := nx_of hv hy
    exact ⟨⟨y, []⟩, (ch_mem hv _).2 (.inr ⟨y, hy, rfl⟩), by show (y.name, y.type) = (n, 8); rw [e, hd.type]⟩
theorem ch_hasT {z : Zone} (hv : validZ z = true) (n : Bs) (t : Nat) (h8 : t < 8) : hasT (bareZ z).sets n t = hasS (chZ z).sets ⟨n, t⟩ := by
  have ho := validZ_ordered hv
  rw [Bool.eq_iff_iff, has_iff]
  unfold hasT
  rw [List.any_eq_true]
  constructor
  · rintro ⟨s, hs, hp⟩
    simp only [named, Bool.and_eq_true, beq_iff_eq] at hp
    have := setB_type (ho.set s (bare_mem.1 hs).1)
    exact ⟨s, (ch_mem hv s).2 (.inl hs), by show (s.set.name, s.set.type) = (n, (t : Int)); rw [hp.1]; congr 1; omega⟩
  · rintro ⟨s, hs, hp⟩
    have e1 : s.set.name = n := congrArg Prod.fst hp
    have e2 : s.set.type = t := congrArg Prod.snd hp
    rcases (ch_mem hv s).1 hs with h | ⟨y, hy, rfl⟩
    · exact ⟨s, h, by simp [named, e1, e2]⟩
    · obtain ⟨d, hd⟩ := nx_of hv hy
      have : y.type = t := e2
      rw [hd.type] at this; omega
theorem ch_own {z : Zone} (hv : validZ z = true) {n : Bs} (hn : n ∈ nsZ z) {t : Nat} (h1 : 1 ≤ t) (h8 : t ≤ 8) : ownT (bareZ z) n t = (hasS (chZ z).sets ⟨n, t⟩ && !((t == 1) && (!(n == z.apex) && hasS (chZ z).sets ⟨n, 2⟩))) := by
  unfold ownT
  by_cases h : t = 8
  · subst h
    rw [show hasS (chZ z).sets ⟨n, (8 : Nat)⟩ = true from (ch_has8 hv n).2 hn]
    rfl
  · rw [ch_hasT hv n t (by omega), show hasT (bareZ z).sets n 2 = hasS (chZ z).sets ⟨n, 2⟩ from ch_hasT hv n 2 (by omega)]
    rw [show (t == 8) = false by simpa using h, Bool.false_or]
    rfl
theorem and_pow (x t : Nat) : x &&& 2 ^ t = if x.testBit t = true then 2 ^ t else 0 := by
  apply Nat.eq_of_testBit_eq
  intro i
  rw [Nat.testBit_and, Nat.testBit_two_pow]
  by_cases h : t = i
  · subst h
    cases hx : x.testBit t
    · simp
    · rw [if_pos rfl, Nat.testBit_two_pow]; simp
  · cases hx : x.testBit t
    · simp [h]
    · rw [if_pos rfl, Nat.testBit_two_pow]; simp [h]
theorem hasB_bit {d : Datum} {h t : Nat} (hd : d.n = h) (hh : h < 512) (ht : t ≤ 8) : hasB d t = h.testBit t := by
  obtain ⟨b1, b2⟩ := bitN_nat (t := (t : Int)) (by omega) (by omega)
  have e : hasB d t = (bAnd .i64 d.n (bitN t) != 0) := rfl
  rw [e, hd, b1, bAnd_nat (by omega) b2]
  rw [show ((t : Int).toNat) = t by omega, and_pow]
  cases h.testBit t
  · rfl
  · have : 0 < 2 ^ t := Nat.pow_pos (by decide)
    rw [if_pos rfl, bne_iff_ne]
    omega
theorem NxS.bit {z : Zone} (hv : validZ z = true) {y : RSet} {d : Datum} (h : NxS z y d) {t : Nat} (h1 : 1 ≤ t) (h8 : t ≤ 8) : hasB d t = (hasS (chZ z).sets ⟨y.name, t⟩ && !((t == 1) && (!(y.name == z.apex) && hasS (chZ z).sets ⟨y.name, 2⟩))) := by
  obtain ⟨k, e1, e2, e3⟩ := h.num
  rw [hasB_bit e1 e2 h8, e3, ch_own hv h.name h1 h8]
theorem hasR9_bit {d : Datum} {h t : Nat} (hd : d.n = h) (hh : h < 512) (ht : t ≤ 8) : hasR9 d t = h.testBit t := by
  obtain ⟨b1, b2⟩ := bitN_nat (t := (t : Int)) (by omega) (by omega)
  unfold hasR9
  rw [hd, b1, show ((t : Int).toNat) = t by omega]
  have e1 : ((h : Int).tdiv ((2 ^ t : Nat) : Int)) = ((h / 2 ^ t : Nat) : Int) := by
    rw [Int.tdiv_eq_ediv_of_nonneg (by omega)]; rfl
  have hle : h / 2 ^ t ≤ h := Nat.div_le_self _ _
  rw [e1, Nat.testBit_eq_decide_div_mod_eq]
  generalize h / 2 ^ t = e at hle ⊢
  rw [wrap_i64 (by omega) (by omega)]
  have e2 : ((e : Int).tmod 2) = ((e % 2 : Nat) : Int) := by
    rw [Int.tmod_eq_emod_of_nonneg (by omega)]; rfl
  rw [e2, Bool.eq_iff_iff]
  simp
  omega
theorem hasR9_eq {z : Zone} (hv : validZ z = true) {y : RSet} {d : Datum} (h : NxS z y d) {t : Nat} (h8 : t ≤ 8) : hasR9 d t = hasB d t := by
  obtain ⟨k, e1, e2, e3⟩ := h.num
  rw [hasB_bit e1 e2 h8, hasR9_bit e1 e2 h8]
theorem ch_ns {z : Zone} (hv : validZ z = true) (hlen : z.sets.length ≤ 10000) : namesOf (chZ z) = nsZ z := by
  have hc := (chain_small hv hlen).2
  have ho := validZ_ordered hv
  refine Asc.ext (names_spec hc).1 (ns_asc hv) fun n => ?_
  rw [(names_spec hc).2 n, ns_iff hv, spec_congr (validZ_ordered hc) ho (ch_cuts hv)]
  constructor
  · rintro ⟨s, hs, e, h⟩
    rcases (ch_mem hv s).1 hs with h1 | ⟨y, hy, rfl⟩
    · exact ⟨s, h1, e, h⟩
    · obtain ⟨d, hd⟩ := nx_of hv hy
      have e' : y.name = n := e
      have := hd.name
      rw [e'] at this
      exact (ns_iff hv n).1 this
  · rintro ⟨s, hs, e, h⟩
    exact ⟨s, (ch_mem hv s).2 (.inl hs), e, h⟩
end NP

/-
  DenialChain: the walk of its text.
-/
set_option linter.unusedSimpArgs false
set_option linter.unusedVariables false
set_option maxRecDepth 100000
namespace NP
open NQ Go
/-- The next set of a name of the chain is found. -/
theorem ch_find {z : Zone} (hv : validZ z = true) (hlen : z.sets.length ≤ 10000) {y : RSet} (hy : y ∈ nxZ z) : findR (chZ z) ⟨y.name, 8⟩ = (⟨y, []⟩, true, 0) := by
  have hc := (chain_small hv hlen).2
  obtain ⟨d, h⟩ := nx_of hv hy
  obtain ⟨s, hs, hp, hf⟩ := find_is (q := ⟨y.name, 8⟩) hc (by unfold questB; simp [(ns_set hv h.name).1]) ((ch_has8 hv y.name).2 h.name)
  have : s = ⟨y, []⟩ := RP.uniq (ch_spec hv).1 hs ((ch_mem hv _).2 (.inr ⟨y, hy, rfl⟩)) (hp.trans (by show (y.name, (8 : Int)) = (y.name, y.type); rw [h.type]))
  rw [hf, this]
theorem nx_form {z : Zone} {y : RSet} {d : Datum} (h : NxS z y d) : y = ⟨y.name, 8, y.life, [d]⟩ := by
  obtain ⟨n, t, l, ds⟩ := y
  have h1 := h.type
  have h2 := h.data
  simp only at h1 h2
  subst h1; subst h2; rfl
theorem names9 {z : Zone} (hv : validZ z = true) : namesR (bareZ z) = (nsZ z, 0) := by
  rw [namesR, if_neg (by simp [bare_valid hv])]; rfl
theorem use9 {z : Zone} (h : (decide (z.sets.length ≤ 60) && fewB z && validZ z) = true) : validZ z = true ∧ z.sets.length ≤ 60 ∧ fewB z = true := by
  simp only [Bool.and_eq_true, decide_eq_true_eq] at h
  exact ⟨h.2, h.1.1, h.1.2⟩
theorem ch_small_sets {z : Zone} (hv : validZ z = true) (hlen : z.sets.length ≤ 60) : (chZ z).sets.length ≤ 200 ∧ (nsZ z).length ≤ 60 ∧ (bareZ z).sets.length ≤ 60 := by
  have h1 := names_le (bareZ z)
  have h2 : (bareZ z).sets.length ≤ z.sets.length := List.length_filter_le _ _
  have h3 := ch_len hv
  unfold nsZ
  omega
end NP
namespace Go.Proofs.YtjecmfajdofamaaGreatDoor
open NQ Go NP Go.RowKit

theorem chain9_fn {z : Zone} (hv : validZ z = true) (hlen : z.sets.length ≤ 10000) : NQ.Fn cx 17 [.agg (zoneD z)] (.tuple [.agg ((zoneD (chZ z)).map .d), .d (.int .i64 0)]) [] := by
  have := chain_fn z
  rw [(chain_small hv hlen).1] at this
  exact this
theorem names9_fn {z : Zone} (hv : validZ z = true) : NQ.Fn cx 18 [.agg (zoneD (bareZ z))] (.tuple [.d (.slice 1 ((nsZ z).map strD)), .d (.int .i64 0)]) [] := by
  have := names_fn (bareZ z)
  rw [names9 hv] at this
  exact this
theorem sameZ_fn {z : Zone} (hv : validZ z = true) (hl : z.sets.length ≤ 100000) : NQ.Fn cx 21 [.agg (zoneD z), .agg (zoneD z)] (.d (.bool true)) [] := by
  have := sameZone_fn z z hl (fun s hs => by have := valid_small hv s hs; omega)
  rw [decide_eq_true rfl] at this
  exact this
end Go.Proofs.YtjecmfajdofamaaGreatDoor

/-
  Plain: what the next sets of a chain deny is so.
-/
set_option linter.unusedSimpArgs false
set_option linter.unusedVariables false
set_option maxRecDepth 100000
namespace NP
open NQ Go
/-- A name that is behind no cut. -/
def Opn (z : Zone) (n : Bs) : Prop := ∀ k ∈ cutsL z.apex z.sets, underN n k = false
theorem Opn.up {z : Zone} {n b : Bs} (h : Opn z n) (hu : underN n b = true) : Opn z b := fun k hk => by
  rw [← Bool.not_eq_true]
  intro e
  have := h k hk
  rw [under_trans hu e] at this; cases this
theorem ns_cut {z : Zone} (hv : validZ z = true) {n k : Bs} (hn : n ∈ nsZ z) (hk : k ∈ cutsL z.apex z.sets) (hu : underN n k = true) : n = k := by
  have e := val_spec hv hk hu
  obtain ⟨s, _, _, h⟩ := (ns_iff hv n).1 hn
  rw [e] at h
  rcases h with h | h
  · exact absurd h (cut_ne (validZ_ordered hv) hk).1
  · exact h.symm
theorem ch_cutOf {z : Zone} (hv : validZ z = true) (hlen : z.sets.length ≤ 10000) (n : Bs) : cutOfR (chZ z) n = spec (highest z) n := by
  have hc := (chain_small hv hlen).2
  rw [cutOf_eq hc, spec_congr (validZ_ordered hc) (validZ_ordered hv) (ch_cuts hv)]
/-- A next set is that of a cut. -/
theorem has4 {y : Zone} (hv : validZ y = true) (n : Bs) : hasS y.sets ⟨n, 4⟩ = (n == y.apex) := by
  have V := val_iff.1 hv
  rw [Bool.eq_iff_iff, has_iff]
  constructor
  · rintro ⟨s, hs, hp⟩
    have e1 : s.set.name = n := congrArg Prod.fst hp
    have e2 : s.set.type = 4 := congrArg Prod.snd hp
    have := V.fit s hs
    rw [e1, e2] at this
    exact this
  · intro h
    have : n = y.apex := by simpa using h
    subst this
    exact has_iff.1 V.start
theorem NxS.cut {z : Zone} (hv : validZ z = true) (hlen : z.sets.length ≤ 10000) {y : RSet} {d : Datum} (h : NxS z y d) : ofCutB d = true ↔ y.name ∈ cutsL z.apex z.sets := by
  have hc := (chain_small hv hlen).2
  show (hasB d ((2 : Nat) : Int) && !hasB d ((4 : Nat) : Int)) = true ↔ _
  rw [h.bit hv (t := 2) (by decide) (by decide), h.bit hv (t := 4) (by decide) (by decide)]
  rw [show hasS (chZ z).sets ⟨y.name, ((4 : Nat) : Int)⟩ = (y.name == z.apex) from has4 hc y.name]
  by_cases e : y.name = z.apex
  · constructor
    · intro k; simp [e] at k
    · intro k; exact absurd e (cut_ne (validZ_ordered hv) k).2.1
  · have := has_cut (z := chZ z) (n := y.name) e
    rw [ch_cuts hv] at this
    rw [← this, show hasS (chZ z).sets ⟨y.name, ((2 : Nat) : Int)⟩ = hasS (chZ z).sets ⟨y.name, 2⟩ from rfl]
    have e' : (y.name == z.apex) = false := by simpa using e
    rw [e']
    simp
/-- A next set covers a name. -/
structure Cov (z : Zone) (y : RSet) (d : Datum) (n : Bs) : Prop where
  under : underN n z.apex = true
  lt : compareN y.name n < 0
  nxt : d.text = z.apex ∨ compareN n d.text < 0
theorem Cov.not {z : Zone} {y : RSet} {d : Datum} (h : NxS z y d) {n : Bs} (c : Cov z y d n) : n ∉ nsZ z := fun hn => by
  have h1 := c.lt
  have h2 := c.nxt
  have h3 := compareN_ord.anti y.name n
  have h4 := compareN_ord.anti d.text n
  rcases h.gap n hn with k | ⟨k1, k2⟩
  · omega
  · rcases h2 with h2 | h2
    · exact k1 h2
    · omega
theorem Cov.le {z : Zone} {y : RSet} {d : Datum} (h : NxS z y d) {n : Bs} (c : Cov z y d n) {m : Bs} (hm : m ∈ nsZ z) (hle : compareN m n ≤ 0) : compareN m y.name ≤ 0 := by
  rcases h.gap m hm with k | ⟨k1, k2⟩
  · exact k
  · rcases c.nxt with h2 | h2
    · exact absurd h2 k1
    · have := compareN_ord.le_trans k2 hle
      have := compareN_ord.anti d.text n
      omega
theorem Cov.ge {z : Zone} {y : RSet} {d : Datum} (h : NxS z y d) {n : Bs} (c : Cov z y d n) {m : Bs} (hm : m ∈ nsZ z) (hge : compareN n m ≤ 0) : compareN n d.text < 0 ∧ compareN d.text m ≤ 0 := by
  rcases h.gap m hm with k | ⟨k1, k2⟩
  · have h1 := compareN_ord.le_trans hge k
    have := compareN_ord.anti y.name n
    have := c.lt
    omega
  · rcases c.nxt with h2 | h2
    · exact absurd h2 k1
    · exact ⟨h2, k2⟩
theorem Cov.uniq {z : Zone} {y y' : RSet} {d d' : Datum} (h : NxS z y d) (h' : NxS z y' d') {n : Bs} (c : Cov z y d n) (c' : Cov z y' d' n) : y.name = y'.name :=
  cN_antisymm (c'.le h' h.name (by have := c.lt; omega)) (c.le h h'.name (by have := c'.lt; omega))
end NP

/-
  DenialTwice: the walk of its text.
-/
set_option linter.unusedSimpArgs false
set_option linter.unusedVariables false
set_option maxRecDepth 100000
namespace NP
open NQ Go
theorem find_any {y : Zone} (hv : validZ y = true) {q : Quest} (hq : questB q = true) : ∃ s, findR y q = (s, hasS y.sets q, 0) := by
  cases hh : hasS y.sets q with
  | true => obtain ⟨s, _, _, h⟩ := find_is hv hq hh; exact ⟨s, h⟩
  | false => exact ⟨_, find_not hv hq hh⟩
theorem ch_twice {z : Zone} (hv : validZ z = true) : chZ (chZ z) = chZ z := by
  show (⟨z.apex, wv (bareZ (chZ z)).sets (nextsR (bareZ (chZ z)) (namesOf (bareZ (chZ z))))⟩ : Zone) = chZ z
  rw [ch_bare hv]; rfl
/-- Where the chain is cut, for a name of its own. -/
theorem ch_cutR {z : Zone} (hv : validZ z = true) (hlen : z.sets.length ≤ 10000) {n : Bs} (hn : n ∈ nsZ z) :
    ∃ c is, cutR (chZ z) n = (c, is, 0) ∧ (is && (c == n)) = (!(n == z.apex) && hasS (chZ z).sets ⟨n, 2⟩) := by
  have hc := (chain_small hv hlen).2
  obtain ⟨v, u⟩ := ns_set hv hn
  refine ⟨_, _, cutR_eq hc v u, ?_⟩
  rw [ch_cutOf hv hlen]
  rcases spec_cases (validZ_ordered hv) n with ⟨h1, h2⟩ | ⟨h1, h2, _⟩
  · rw [h1]
    have : (!(n == z.apex) && hasS (chZ z).sets ⟨n, 2⟩) = false := by
      by_cases e : n = z.apex
      · simp [e]
      · have hk := has_cut (z := chZ z) (n := n) e
        rw [ch_cuts hv] at hk
        have : hasS (chZ z).sets ⟨n, 2⟩ = false := by
          rw [← Bool.not_eq_true]; intro h
          have := h2 n (hk.1 h)
          rw [under_self] at this; cases this
        rw [this, Bool.and_false]
    rw [this]; rfl
  · have e := ns_cut hv hn h1 h2
    rw [← e]
    have hne : n ≠ z.apex := by rw [e]; exact (cut_ne (validZ_ordered hv) h1).2.1
    have hk := has_cut (z := chZ z) (n := n) hne
    rw [ch_cuts hv] at hk
    have h2' := hk.2 (e ▸ h1)
    rw [h2', valid_bne v]
    simp [hne]
end NP
namespace Go.Proofs.YtjecmfajdofamaaGreatDoor
open NQ Go NP Go.RowKit

set_option maxHeartbeats 4000000 in
theorem denialTwiceN_fn (z : Zone) (w : Nat) (hw : w < 256) : NQ.Fn cx 4 [.agg (zoneD z), .int .u8 w] (.d (.bool true)) [] := by
  have fU := usable9_fn z
  cases hU : (decide (z.sets.length ≤ 60) && fewB z && validZ z) with
  | false =>
    rw [hU] at fU
    refine fn_of_vc tyOk mixed Tryz.func4 (by kernel_rfl) rfl (Nat.le_of_ble_eq_true rfl) ?_; conv => whnf
    (refine ⟨_, _, head9_fn, ?_⟩; conv => whnf)
    (refine ⟨_, _, fU, ?_⟩; conv => whnf)
    exact ret_data rfl rfl
  | true =>
  rw [hU] at fU
  obtain ⟨hv, hlen, hfew⟩ := use9 hU
  obtain ⟨l1, l2, l3⟩ := ch_small_sets hv hlen
  have hc := (chain_small hv (by omega)).2
  have fC := chain9_fn hv (by omega)
  have fC2 := chain9_fn hc (by omega)
  rw [ch_twice hv] at fC2
  have fB := bare_fn z (by omega)
  have fN := names9_fn hv
  have fN2 := names_fn (chZ z)
  rw [show namesR (chZ z) = (nsZ z, 0) by rw [namesR, if_neg (by simp [hc]), ch_ns hv (by omega)]] at fN2
  have fS := sameZ_fn hc (by omega)
  have fT := texts_fn (nsZ z) (nsZ z) (by omega) (by omega)
  rw [show textsB (nsZ z) (nsZ z) = true from textsB_iff.2 rfl] at fT
  have h0 : 0 < (nsZ z).length := (List.getElem?_eq_some_iff.1 (ns_first hv)).1
  have step : ∀ k n, (nsZ z)[k]? = some n → ∃ d lf, NQ.Fn cx 22 [.agg (zoneD (chZ z)), .agg (questD ⟨n, 8⟩)] (.tuple [.agg ((signedD ⟨⟨n, 8, lf, [d]⟩, []⟩).map .d), .d (.bool true), .d (.int .i64 0)]) [] ∧
      ∀ t : Nat, 1 ≤ t → t ≤ 8 → ∃ s has c is, NQ.Fn cx 22 [.agg (zoneD (chZ z)), .agg (questD ⟨n, t⟩)] (.tuple [.agg ((signedD s).map .d), .d (.bool has), .d (.int .i64 0)]) [] ∧
        NQ.Fn cx 25 [.agg (zoneD (chZ z)), .str n] (.tuple [.d (.str c), .d (.bool is), .d (.int .i64 0)]) [] ∧ hasR9 d t = (has && !(is && (c == n) && ((t : Int) == 1))) := fun k n hk => by
    obtain ⟨d, hd, hn, hat⟩ := nx_at hv hk
    have hnm := List.mem_of_getElem? hk
    have hmem : nextS (bareZ z) (nsZ z) k ∈ nxZ z := List.mem_of_getElem? (nexts_get (List.getElem?_eq_some_iff.1 hk).1)
    have hf := ch_find hv (by omega) hmem
    rw [nx_form hd, hn] at hf
    have fF := zfind_fn (chZ z) ⟨n, 8⟩
    rw [hf] at fF
    refine ⟨d, _, fF, fun t t1 t8 => ?_⟩
    have hq : questB ⟨n, t⟩ = true := by unfold questB; rw [(ns_set hv hnm).1]; simp; omega
    obtain ⟨s, hs⟩ := find_any hc hq
    obtain ⟨c, is, hcut, hglue⟩ := ch_cutR hv (by omega) hnm
    have fF2 := zfind_fn (chZ z) ⟨n, t⟩
    rw [hs] at fF2
    have fK := cut_fn (chZ z) n
    rw [hcut] at fK
    refine ⟨s, _, c, is, fF2, fK, ?_⟩
    rw [hasR9_eq hv hd t8, hd.bit hv t1 t8, hn, hglue]
    have : ((t : Int) == 1) = (t == 1) := by rw [Bool.eq_iff_iff]; simp; omega
    rw [this, Bool.and_comm (t == 1)]
  generalize nsZ z = ns at *
  generalize chZ z = c at *
  generalize bareZ z = b at *
  clear hU hv hc hfew
  have hnl : (ns.map strD).length = ns.length := List.length_map _
  have el0 : (((ns.map strD).length : Int) == 0) = false := by rw [hnl, beq_eq_false_iff_ne]; omega
  have e0 : (((ns.map strD).length : Nat) : Int) ≠ 0 := by rw [hnl]; omega
  have er := rem_val (c := cx) (t := 3) (IntKind.i64.wrap (w : Int)) (((ns.map strD).length : Nat) : Int) e0
  have ew : (IntKind.i64.wrap (w : Int)).tmod (((ns.map strD).length : Nat) : Int) = ((w % ns.length : Nat) : Int) := by
    rw [wrap_i64 (by omega) (by omega), List.length_map, Int.tmod_eq_emod_of_nonneg (by omega)]; rfl
  have hml : w % ns.length < ns.length := Nat.mod_lt _ h0
  obtain ⟨n, hn⟩ : ∃ n, ns[w % ns.length]? = some n := ⟨_, List.getElem?_eq_getElem hml⟩
  obtain ⟨d, lf, fF, hstep⟩ := step _ n hn
  clear step
  refine fn_of_vcz (fun _ => []) tyOk mixed Tryz.func4 (by kernel_rfl) rfl (Nat.le_of_ble_eq_true rfl) ?_
  conv => whnf
  (refine ⟨_, _, head9_fn, ?_⟩; conv => whnf)
  (refine ⟨_, _, fU, ?_⟩; conv => whnf)
  (refine ⟨_, _, fC, ?_⟩; conv => whnf)
  (refine ⟨_, _, fC2, ?_⟩; conv => whnf)
  (refine ⟨_, _, fN2, ?_⟩; conv => whnf)
  (refine ⟨_, _, fB, ?_⟩; conv => whnf)
  (refine ⟨_, _, fN, ?_⟩; conv => whnf)
  (refine ⟨_, _, fS, ?_⟩; conv => whnf)
  (refine ⟨_, _, fT, ?_⟩; conv => whnf)
  rw [el0]
  conv => whnf
  rw [ew] at er
  split
  case h_2 hb => exact absurd (hb.symm.trans er) (by simp)
  case h_1 hb =>
  cases hb.symm.trans er
  conv => whnf
  refine ⟨Int.natCast_nonneg _, strD n, map_get hn, ?_⟩
  conv => whnf
  (refine ⟨_, _, fF, ?_⟩; conv => whnf)
  refine ⟨Nat, fun k => ⟨[(5, .d (.bool true)), (6, .ptr 6 0), (14, .d (.str n)), (15, .ptr 15 0), (18, .d (.int .i64 (k + 1 : Nat)))], [(6, .box ((zoneD c).map .d)), (15, .box ((signedD ⟨⟨n, 8, lf, [d]⟩, []⟩).map .d))]⟩,
    fun k => k ≤ 8, fun k => 8 - k, ⟨0, by omega, Weak.keep ⟨⟨rfl, rfl⟩, ⟨rfl, rfl⟩, ⟨rfl, rfl⟩, ⟨rfl, rfl⟩, ⟨rfl, rfl⟩, trivial⟩ ⟨⟨rfl, rfl⟩, ⟨rfl, rfl⟩, trivial⟩⟩, fun k hk => ?_⟩
  conv => whnf
  refine bcase_intro (fun h1 => ?_) (fun h1 => ?_) <;> (rw [h1]; conv => whnf)
  · have hlt : k < 8 := by simp at h1; omega
    obtain ⟨s, has, cut, is, f1, f2, f3⟩ := hstep (k + 1) (by omega) (by omega)
    have fH := hasR9_fn d (k + 1) (by
      obtain ⟨b1, b2⟩ := bitN_nat (t := ((k + 1 : Nat) : Int)) (by omega) (by omega)
      rw [b1]
      have : 0 < 2 ^ ((k + 1 : Nat) : Int).toNat := Nat.pow_pos (by decide)
      omega)
    rw [f3] at fH
    (refine ⟨_, _, f1, ?_⟩; conv => whnf)
    (refine ⟨_, _, f2, ?_⟩; conv => whnf)
    cases is <;> cases has <;> cases hcn : (cut == n) <;> cases hk1 : (((k + 1 : Nat) : Int) == 1)
    all_goals
      rw [hcn, hk1] at fH
      conv => whnf
      repeat' (first
        | (rw [hcn]; conv => whnf; done)
        | (refine ⟨by decide, datumD d, rfl, ?_⟩; conv => whnf)
        | (refine ⟨_, _, fH, ?_⟩; conv => whnf)
        | exact ⟨k + 1, hlt, by (show 8 - (k + 1) < 8 - k; omega), Weak.keep ⟨⟨rfl, rfl⟩, ⟨rfl, rfl⟩, ⟨rfl, rfl⟩, ⟨rfl, rfl⟩, ⟨wrap_succ (by omega), rfl⟩, trivial⟩ ⟨⟨rfl, rfl⟩, ⟨rfl, rfl⟩, trivial⟩⟩
        | (rw [hcn]; conv => whnf)
        | (rw [hk1]; conv => whnf)
        | fail)
  · exact ret_data rfl rfl
theorem denialTwice_fn (z : Zone) (wi : Int) (hw : (Lit.int .u8 wi).wf = true) : NQ.Fn cx 4 [.agg (zoneD z), .int .u8 wi] (.d (.bool true)) [] := by
  have hw' : 0 ≤ wi ∧ wi < 256 := by
    have h1 : IntKind.u8.min = 0 := rfl
    have h2 : IntKind.u8.max = 255 := rfl
    simp [Lit.wf, h1, h2] at hw
    omega
  obtain ⟨w, rfl⟩ : ∃ w : Nat, wi = w := ⟨wi.toNat, by omega⟩
  exact denialTwiceN_fn z w (by omega)
end Go.Proofs.YtjecmfajdofamaaGreatDoor
