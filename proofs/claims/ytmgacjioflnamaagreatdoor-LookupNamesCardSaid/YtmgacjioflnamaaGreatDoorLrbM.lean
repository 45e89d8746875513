/-
  Reference 07 on plain data: Add, Cover, Has, Exists, Closest, Wildcard.
-/
import Derived.Test.YtmgacjioflnamaaGreatDoorLraM
import Derived.Test.YtmgacjioflnamaaGreatDoorMCa
import Derived.Test.YtmgacjioflnamaaGreatDoorMRb
set_option linter.unusedSimpArgs false
set_option linter.unusedVariables false
set_option maxRecDepth 100000
namespace NP
open NQ Go
def addR (l : List Signed) (z : Zone) (q : Quest) : List Signed :=
  if decide (atI z.sets q < 0) = true then l else if hasS l q = true then l else l ++ (match z.sets[(atI z.sets q).toNat]? with | some s => [s] | none => [])
def cvHit (n : Bs) (s : Signed) : Bool := (s.set.type == 8) && decide (compareN s.set.name n ≤ 0)
def cvGo (l : List Signed) (n : Bs) : Nat → Option Signed
  | 0 => none
  | k + 1 => match l[k]? with | some s => if cvHit n s = true then some s else cvGo l n k | none => cvGo l n k
def coverR (l : List Signed) (z : Zone) (n : Bs) : List Signed := match cvGo z.sets n z.sets.length with | some s => addR l z ⟨s.set.name, 8⟩ | none => l
def hasN (z : Zone) (n : Bs) : Bool := z.sets.any fun s => s.set.name == n
def existsR (z : Zone) (n : Bs) : Bool := z.sets.any fun s => underN s.set.name n
def clGo (z : Zone) : Nat → Bs → Bs
  | 0, n => n
  | f + 1, n => if existsR z n = true then n else clGo z f (parentN n)
def closestR (z : Zone) (n : Bs) : Bs := clGo z ((labs n).length + 1) n
theorem addR_len (l : List Signed) (z : Zone) (q : Quest) : (addR l z q).length ≤ l.length + 1 := by
  unfold addR
  split
  · omega
  · split
    · omega
    · rw [List.length_append]; split <;> simp
theorem okL_piece {s : Bs} (h : validN s = true) (x : Bs) (hx : x ∈ labs s) : x.length ≤ 60 := by
  unfold labs at hx
  split at hx
  · cases hx
  · exact Nat.le_trans (splitDot_piece s x hx) (valid_len h)
theorem any_step {l : List Signed} {p : Signed → Bool} {k : Nat} {s : Signed} (hk : l[k]? = some s) (h : (l.take k).any p = false) : (l.take (k + 1)).any p = p s := by
  rw [take_snoc hk, List.any_append, h]; simp
theorem any_hit {l : List Signed} {p : Signed → Bool} {k : Nat} {s : Signed} (hk : l[k]? = some s) (h : p s = true) : l.any p = true := List.any_eq_true.2 ⟨s, List.mem_of_getElem? hk, h⟩
end NP
namespace Go.Proofs.YtmgacjioflnamaaGreatDoor
open NQ Go NP Go.RowKit

/-- The setting in which Add and Cover take a row and give it back. -/
noncomputable def cxR : Cx := { cx with chg := fun g => match Nat.beq g 64 with | true => 1 | false => (match Nat.beq g 65 with | true => 1 | false => cx.chg g) }
theorem tyR : TyOk cxR := tyOk
theorem mixedR : cxR.P.follows .mixedOrders = true := mixed
theorem add_fnr (l : List Signed) (fl : Bool) (z : Zone) (n : Bs) (t : Int) (hl : l.length ≤ 100000) (hz : z.sets.length ≤ 100000) :
    FnR cx 64 true 41 5 (l.map signedD) fl [.agg (zoneD z), .str n, .int .i64 t] ((addR l z ⟨n, t⟩).map signedD) := by
  refine fnr_of_vcz (fun _ => []) tyOk mixed Tryz.func64 (by kernel_rfl) rfl (Nat.le_of_ble_eq_true rfl) ?_; conv => whnf
  (refine ⟨_, _, at_fn z ⟨n, t⟩ hz, ?_⟩; conv => whnf)
  refine bcase_intro (fun hneg => ?_) (fun hneg => ?_) <;> (rw [hneg]; conv => whnf)
  · refine ⟨rfl, fl, ?_⟩
    unfold addR; rw [if_pos hneg]; rfl
  refine ⟨Nat, fun k => ⟨[(0, .own 100000), (2, .d (.str n)), (3, .d (.int .i64 t)), (5, .ptr 5 0), (9, .d (.int .i64 (atI z.sets ⟨n, t⟩))), (10, .d (.int .i64 k))],
      [(100000, .row 41 5 (l.map signedD) fl), (5, .box ((zoneD z).map .d))]⟩, fun k => k ≤ l.length ∧ (l.take k).any (is ⟨n, t⟩) = false, fun k => l.length - k,
    ⟨0, ⟨by omega, by simp⟩, Weak.keep ⟨⟨rfl, rfl⟩, ⟨rfl, rfl⟩, ⟨rfl, rfl⟩, ⟨rfl, rfl⟩, ⟨rfl, rfl⟩, ⟨rfl, rfl⟩, trivial⟩ ⟨⟨rfl, rfl⟩, ⟨rfl, rfl⟩, trivial⟩⟩, fun k ⟨hk, hno⟩ => ?_⟩
  conv => whnf
  refine bcase_intro (fun h1 => ?_) (fun h1 => ?_) <;> (rw [h1]; conv => whnf)
  · have hlt : k < l.length := by simp at h1; omega
    obtain ⟨s, hs⟩ : ∃ s, l[k]? = some s := ⟨_, List.getElem?_eq_getElem hlt⟩
    have hst := any_step hs hno
    have next : is ⟨n, t⟩ s = false → ∀ st, Weak cx st ⟨[(0, .own 100000), (2, .d (.str n)), (3, .d (.int .i64 t)), (5, .ptr 5 0), (9, .d (.int .i64 (atI z.sets ⟨n, t⟩))), (10, .d (.int .i64 ((k + 1 : Nat) : Int)))], [(100000, .row 41 5 (l.map signedD) fl), (5, .box ((zoneD z).map .d))]⟩ →
        ∃ y : Nat, (y ≤ l.length ∧ (l.take y).any (is ⟨n, t⟩) = false) ∧ l.length - y < l.length - k ∧ Weak cx st ⟨[(0, .own 100000), (2, .d (.str n)), (3, .d (.int .i64 t)), (5, .ptr 5 0), (9, .d (.int .i64 (atI z.sets ⟨n, t⟩))), (10, .d (.int .i64 y))], [(100000, .row 41 5 (l.map signedD) fl), (5, .box ((zoneD z).map .d))]⟩ := fun hb st hw =>
      ⟨k + 1, ⟨hlt, by rw [hst, hb]⟩, by omega, hw⟩
    refine ⟨Int.natCast_nonneg k, by (rw [List.length_map]; simpa using hlt), ?_⟩
    conv => whnf
    refine ⟨signedD s, by (rw [List.getElem?_map]; show Option.map signedD l[((k : Nat) : Int).toNat]? = _; rw [show ((k : Nat) : Int).toNat = k by simp, hs]; rfl), ?_⟩
    conv => whnf
    refine bcase_intro (fun hn => ?_) (fun hn => ?_) <;> (rw [hn]; conv => whnf)
    · refine ⟨Int.natCast_nonneg k, by (rw [List.length_map]; simpa using hlt), ?_⟩
      conv => whnf
      refine ⟨signedD s, by (rw [List.getElem?_map]; show Option.map signedD l[((k : Nat) : Int).toNat]? = _; rw [show ((k : Nat) : Int).toNat = k by simp, hs]; rfl), ?_⟩
      conv => whnf
      refine bcase_intro (fun ht => ?_) (fun ht => ?_) <;> (rw [ht]; conv => whnf)
      · refine ⟨rfl, fl, ?_⟩
        have : hasS l ⟨n, t⟩ = true := any_hit hs (by unfold is; rw [hn, ht]; rfl)
        unfold addR; rw [if_neg (by simp [hneg]), if_pos this]; rfl
      · exact next (by unfold is; rw [hn, ht]; rfl) _ (Weak.keep ⟨⟨rfl, rfl⟩, ⟨rfl, rfl⟩, ⟨rfl, rfl⟩, ⟨rfl, rfl⟩, ⟨rfl, rfl⟩, ⟨wrap_succ (by omega), rfl⟩, trivial⟩ ⟨⟨rfl, rfl⟩, ⟨rfl, rfl⟩, trivial⟩)
    · exact next (by unfold is; rw [hn]; rfl) _ (Weak.keep ⟨⟨rfl, rfl⟩, ⟨rfl, rfl⟩, ⟨rfl, rfl⟩, ⟨rfl, rfl⟩, ⟨rfl, rfl⟩, ⟨wrap_succ (by omega), rfl⟩, trivial⟩ ⟨⟨rfl, rfl⟩, ⟨rfl, rfl⟩, trivial⟩)
  · obtain rfl : k = l.length := by simp at h1; omega
    rw [List.take_length] at hno
    have hno' : hasS l ⟨n, t⟩ = false := hno
    have h0 : 0 ≤ atI z.sets ⟨n, t⟩ := by simpa using hneg
    have hlt : atI z.sets ⟨n, t⟩ < z.sets.length := by
      unfold atI; split
      · rename_i k hk; have := (List.findIdx?_eq_some_iff_getElem.1 hk).1; omega
      · omega
    obtain ⟨s, hs⟩ : ∃ s, z.sets[(atI z.sets ⟨n, t⟩).toNat]? = some s := ⟨_, List.getElem?_eq_getElem (by omega)⟩
    refine ⟨h0, signedD s, by (rw [List.getElem?_map, hs]; rfl), ?_⟩
    conv => whnf
    refine ⟨by (show (l.map signedD).length + 1 ≤ _; rw [List.length_map]; omega), by (show ((l.map signedD).length + 1) * 80 ≤ _; rw [List.length_map]; omega), ?_⟩
    conv => whnf
    refine ⟨rfl, false, ?_⟩
    unfold addR
    rw [if_neg (by simp [hneg]), if_neg (by simp [hno']), hs, List.map_append]
    show some (Blk.row _ _ (_ ++ _)) = _
    rfl
theorem exists_rfn (z : Zone) (n : Bs) (hz : z.sets.length ≤ 100000) (hv : ∀ s ∈ z.sets, validN s.set.name = true) (hn : validN n = true) : NQ.Fn cx 66 [.agg (zoneD z), .str n] (.d (.bool (existsR z n))) [] := by
  refine fn_of_vc tyOk mixed Tryz.func66 (by kernel_rfl) rfl (Nat.le_of_ble_eq_true rfl) ?_; conv => whnf
  refine ⟨Nat, fun k => ⟨[(1, .d (.str n)), (2, .ptr 2 0), (5, .d (.int .i64 k))], [(2, .box ((zoneD z).map .d))]⟩, fun k => k ≤ z.sets.length ∧ (z.sets.take k).any (fun s => underN s.set.name n) = false, fun k => z.sets.length - k,
    ⟨0, ⟨by omega, by simp⟩, Weak.keep ⟨⟨rfl, rfl⟩, ⟨rfl, rfl⟩, ⟨rfl, rfl⟩, trivial⟩ ⟨⟨rfl, rfl⟩, trivial⟩⟩, fun k ⟨hk, hno⟩ => ?_⟩
  conv => whnf
  refine bcase_intro (fun h1 => ?_) (fun h1 => ?_) <;> (rw [h1]; conv => whnf)
  · have hlt : k < z.sets.length := by simp at h1; omega
    obtain ⟨s, hs⟩ : ∃ s, z.sets[k]? = some s := ⟨_, List.getElem?_eq_getElem hlt⟩
    have hst := any_step hs hno
    refine ⟨Int.natCast_nonneg k, signedD s, map_get hs, ?_⟩
    conv => whnf
    (refine ⟨_, _, RIn_fn s.set.name n (valid_len (hv s (List.mem_of_getElem? hs))) (valid_len hn), ?_⟩; conv => whnf)
    refine bcase_intro (fun hu => ?_) (fun hu => ?_) <;> (rw [hu]; conv => whnf)
    · refine ret_data rfl ?_
      rw [show existsR z n = true from any_hit (p := fun s => underN s.set.name n) hs hu]; rfl
    · exact ⟨k + 1, ⟨hlt, by rw [hst, hu]⟩, by (show z.sets.length - (k + 1) < z.sets.length - k; omega), Weak.keep ⟨⟨rfl, rfl⟩, ⟨rfl, rfl⟩, ⟨wrap_succ (by omega), rfl⟩, trivial⟩ ⟨⟨rfl, rfl⟩, trivial⟩⟩
  · obtain rfl : k = z.sets.length := by simp at h1; omega
    refine ret_data rfl ?_
    rw [List.take_length] at hno
    rw [show existsR z n = false from hno]; rfl
theorem has_rfn (z : Zone) (n : Bs) (hz : z.sets.length ≤ 100000) : NQ.Fn cx 25 [.agg (zoneD z), .str n] (.d (.bool (hasN z n))) [] := by
  refine fn_of_vc tyOk mixed Tryz.func25 (by kernel_rfl) rfl (Nat.le_of_ble_eq_true rfl) ?_; conv => whnf
  refine ⟨Nat, fun k => ⟨[(1, .d (.str n)), (2, .ptr 2 0), (5, .d (.int .i64 k))], [(2, .box ((zoneD z).map .d))]⟩, fun k => k ≤ z.sets.length ∧ (z.sets.take k).any (fun s => s.set.name == n) = false, fun k => z.sets.length - k,
    ⟨0, ⟨by omega, by simp⟩, Weak.keep ⟨⟨rfl, rfl⟩, ⟨rfl, rfl⟩, ⟨rfl, rfl⟩, trivial⟩ ⟨⟨rfl, rfl⟩, trivial⟩⟩, fun k ⟨hk, hno⟩ => ?_⟩
  conv => whnf
  refine bcase_intro (fun h1 => ?_) (fun h1 => ?_) <;> (rw [h1]; conv => whnf)
  · have hlt : k < z.sets.length := by simp at h1; omega
    obtain ⟨s, hs⟩ : ∃ s, z.sets[k]? = some s := ⟨_, List.getElem?_eq_getElem hlt⟩
    have hst := any_step hs hno
    refine ⟨Int.natCast_nonneg k, signedD s, map_get hs, ?_⟩
    conv => whnf
    refine bcase_intro (fun hu => ?_) (fun hu => ?_) <;> (rw [hu]; conv => whnf)
    · refine ret_data rfl ?_
      rw [show hasN z n = true from any_hit (p := fun s => s.set.name == n) hs hu]; rfl
    · exact ⟨k + 1, ⟨hlt, by rw [hst, hu]⟩, by (show z.sets.length - (k + 1) < z.sets.length - k; omega), Weak.keep ⟨⟨rfl, rfl⟩, ⟨rfl, rfl⟩, ⟨wrap_succ (by omega), rfl⟩, trivial⟩ ⟨⟨rfl, rfl⟩, trivial⟩⟩
  · obtain rfl : k = z.sets.length := by simp at h1; omega
    refine ret_data rfl ?_
    rw [List.take_length] at hno
    rw [show hasN z n = false from hno]; rfl
theorem closest_fn (z : Zone) (n : Bs) (hz : z.sets.length ≤ 100000) (hv : ∀ s ∈ z.sets, validN s.set.name = true) (hn : validN n = true) (hu : underN n z.apex = true) (hex : existsR z z.apex = true) : NQ.Fn cx 68 [.agg (zoneD z), .str n] (.d (.str (closestR z n))) [] := by
  refine fn_of_vc tyOk mixed Tryz.func68 (by kernel_rfl) rfl (Nat.le_of_ble_eq_true rfl) ?_; conv => whnf
  refine ⟨Bs, fun m => ⟨[(1, .d (.str m)), (2, .ptr 2 0)], [(2, .box ((zoneD z).map .d))]⟩, fun m => validN m = true ∧ underN m z.apex = true ∧ clGo z ((labs m).length + 1) m = closestR z n, fun m => (labs m).length,
    ⟨n, ⟨hn, hu, rfl⟩, Weak.keep ⟨⟨rfl, rfl⟩, ⟨rfl, rfl⟩, trivial⟩ ⟨⟨rfl, rfl⟩, trivial⟩⟩, fun m ⟨hm, hum, hgo⟩ => ?_⟩
  conv => whnf
  (refine ⟨_, _, exists_rfn z m hz hv hm, ?_⟩; conv => whnf)
  rw [clGo] at hgo
  refine bcase_intro (fun he => ?_) (fun he => ?_) <;> (rw [he]; conv => whnf)
  · have he : existsR z m = false := by simpa using he
    have hne : m ≠ z.apex := fun e => by subst e; rw [hex] at he; cases he
    obtain ⟨k1, k2, k3⟩ := under_up hm hum hne
    rw [if_neg (by simp [he]), ← k3] at hgo
    have hl8 := labs_le hm
    (refine ⟨_, _, Parts_fn m (by have := valid_len hm; omega), ?_⟩; conv => whnf)
    have hlen : 1 ≤ (labs m).length := by omega
    refine ⟨by decide, by (show (1 : Int) ≤ ((labs m).map strD).length; rw [List.length_map]; omega), by (show (((labs m).map strD).length : Int) ≤ ((labs m).map strD).length; omega), ?_⟩
    conv => whnf
    have e : (((labs m).map strD).drop (1 : Int).toNat).take ((((labs m).map strD).length : Int).toNat - (1 : Int).toNat) = ((labs m).tail).map strD := by
      rw [List.take_of_length_le (by simp), List.map_tail, ← List.drop_one]; rfl
    rw [e]
    (refine ⟨_, _, Glue_fn (labs m).tail (by simp; omega) (fun x hx => by have := okL_piece hm x (List.mem_of_mem_tail hx); omega), ?_⟩; conv => whnf)
    exact ⟨parentN m, ⟨parent_valid hm, k2, hgo⟩, by (show (labs (parentN m)).length < (labs m).length; omega), Weak.keep ⟨⟨rfl, rfl⟩, ⟨rfl, rfl⟩, trivial⟩ ⟨⟨rfl, rfl⟩, trivial⟩⟩
  · have he : existsR z m = true := by simpa using he
    rw [if_pos he] at hgo
    refine ret_data rfl ?_
    rw [hgo]; rfl
theorem wildcard_fn (n : Bs) (hn : validN n = true) : NQ.Fn cx 67 [.str n] (.tuple [.d (.str (joinR ([42] :: labs n)).1), .d (.bool ((joinR ([42] :: labs n)).2 == 0))]) [] := by
  refine fn_of_vc tyOk mixed Tryz.func67 (by kernel_rfl) rfl (Nat.le_of_ble_eq_true rfl) ?_; conv => whnf
  have hl8 := labs_le hn
  (refine ⟨_, _, Parts_fn n (by have := valid_len hn; omega), ?_⟩; conv => whnf)
  refine ⟨by (show 1 + ((labs n).map strD).length ≤ _; rw [List.length_map]; omega), by (show (1 + ((labs n).map strD).length) * 16 ≤ _; rw [List.length_map]; omega), ?_⟩
  conv => whnf
  have hj := RJoin_fn ([42] :: labs n) (by simp; omega) (fun x hx => by
    rcases List.mem_cons.1 hx with rfl | hx
    · decide
    · have := okL_piece hn x hx; omega)
  refine ⟨_, hj, rfl, ?_⟩
  conv => whnf
  exact ret_data rfl rfl
theorem cover_fnr (l : List Signed) (fl : Bool) (z : Zone) (n : Bs) (hl : l.length ≤ 100000) (hz : z.sets.length ≤ 100000) (hv : ∀ s ∈ z.sets, validN s.set.name = true) (hn : validN n = true) :
    FnR cx 65 true 41 5 (l.map signedD) fl [.agg (zoneD z), .str n] ((coverR l z n).map signedD) := by
  refine fnR_cx (cx := cxR) (cx' := cx) rfl rfl ?_
  refine fnr_of_vcz (fun _ => []) tyR mixedR Tryz.func65 (by kernel_rfl) rfl (Nat.le_of_ble_eq_true rfl) ?_
  conv => whnf
  have hw : ∀ m : Nat, m ≤ 100000 → IntKind.i64.wrap (((m : Nat) : Int) - 1) = ((m : Nat) : Int) - 1 := fun m hm => wrap_i64 (by omega) (by omega)
  refine ⟨Nat, fun k => ⟨[(0, .own 100000), (2, .d (.str n)), (4, .ptr 4 0), (7, .d (.int .i64 ((k : Int) - 1)))], [(100000, .row 41 5 (l.map signedD) fl), (4, .box ((zoneD z).map .d))]⟩,
    fun k => k ≤ z.sets.length ∧ cvGo z.sets n k = cvGo z.sets n z.sets.length, fun k => k,
    ⟨z.sets.length, ⟨by omega, rfl⟩, Weak.keep ⟨⟨rfl, rfl⟩, ⟨rfl, rfl⟩, ⟨rfl, rfl⟩, ⟨?_, rfl⟩, trivial⟩ ⟨⟨rfl, rfl⟩, ⟨rfl, rfl⟩, trivial⟩⟩, fun k ⟨hk, hgo⟩ => ?_⟩
  · show AV.d (D.int .i64 (IntKind.i64.wrap (((z.sets.map signedD).length : Int) - 1))) = _
    rw [List.length_map, hw _ hz]
  conv => whnf
  refine bcase_intro (fun h1 => ?_) (fun h1 => ?_) <;> (rw [h1]; conv => whnf)
  · obtain ⟨m, rfl⟩ : ∃ m, k = m + 1 := ⟨k - 1, by simp at h1; omega⟩
    have hm1 : (((m + 1 : Nat) : Int) - 1) = (m : Int) := by omega
    obtain ⟨s, hs⟩ : ∃ s, z.sets[m]? = some s := ⟨_, List.getElem?_eq_getElem (by omega)⟩
    have hvs := hv s (List.mem_of_getElem? hs)
    rw [cvGo, hs] at hgo
    simp only at hgo
    refine ⟨by omega, signedD s, by (rw [hm1]; exact map_get hs), ?_⟩
    conv => whnf
    have next : cvHit n s = false → ∀ st, Weak cxR st ⟨[(0, .own 100000), (2, .d (.str n)), (4, .ptr 4 0), (7, .d (.int .i64 (IntKind.i64.wrap (((m + 1 : Nat) : Int) - 1 - 1))))], [(100000, .row 41 5 (l.map signedD) fl), (4, .box ((zoneD z).map .d))]⟩ →
        ∃ y : Nat, (y ≤ z.sets.length ∧ cvGo z.sets n y = cvGo z.sets n z.sets.length) ∧ y < m + 1 ∧ Weak cxR st ⟨[(0, .own 100000), (2, .d (.str n)), (4, .ptr 4 0), (7, .d (.int .i64 ((y : Int) - 1)))], [(100000, .row 41 5 (l.map signedD) fl), (4, .box ((zoneD z).map .d))]⟩ := fun hb st hw' =>
      ⟨m, ⟨by omega, by rw [← hgo, if_neg (by simp [hb])]⟩, by omega, by rw [hm1, hw m (by omega)] at hw'; exact hw'⟩
    refine bcase_intro (fun ht => ?_) (fun ht => ?_) <;> (rw [ht]; conv => whnf)
    · (refine ⟨_, _, ROrder_fn s.set.name n (valid_len hvs) (valid_len hn), ?_⟩; conv => whnf)
      refine bcase_intro (fun ho => ?_) (fun ho => ?_) <;> (rw [ho]; conv => whnf)
      · have hit : cvHit n s = true := by unfold cvHit; rw [ht, ho]; rfl
        rw [if_pos hit] at hgo
        refine ⟨_, fnR_cx (cx := cx) (cx' := cxR) rfl rfl (add_fnr l fl z s.set.name 8 hl hz), ?_⟩
        conv => whnf
        refine ⟨rfl, false, ?_⟩
        unfold coverR; rw [← hgo]; rfl
      · exact next (by unfold cvHit; rw [ht, ho]; rfl) _ (Weak.keep ⟨⟨rfl, rfl⟩, ⟨rfl, rfl⟩, ⟨rfl, rfl⟩, ⟨rfl, rfl⟩, trivial⟩ ⟨⟨rfl, rfl⟩, ⟨rfl, rfl⟩, trivial⟩)
    · exact next (by unfold cvHit; rw [ht]; rfl) _ (Weak.keep ⟨⟨rfl, rfl⟩, ⟨rfl, rfl⟩, ⟨rfl, rfl⟩, ⟨rfl, rfl⟩, trivial⟩ ⟨⟨rfl, rfl⟩, ⟨rfl, rfl⟩, trivial⟩)
  · obtain rfl : k = 0 := by simp at h1; omega
    refine ⟨rfl, fl, ?_⟩
    unfold coverR; rw [← hgo]; rfl
end Go.Proofs.YtmgacjioflnamaaGreatDoor
