/-
  Texts of the proof of the law ZoneCuts, merged in build order.
-/
import Derived.Test.YtpbidmocchbbiaaDoorMVa
import Derived.Test.YtpbidmocchbbiaaDoorDbM
import Derived.Test.YtpbidmocchbbiaaDoorDdM
/-
  Contracts of slices.Clone, zone.clone, zone.cloneZone, zone.Find on plain data.
-/
set_option linter.unusedSimpArgs false
set_option linter.unusedVariables false
set_option maxRecDepth 100000
namespace NP
open NQ Go
def zeroSg : Signed := ⟨⟨[], 0, 0, []⟩, []⟩
def Small (s : Signed) : Prop := s.set.data.length ≤ 100000 ∧ s.sigs.length ≤ 100000
theorem set_row {α : Type} {l : List α} {k n : Nat} {x z : α} (hk : l[k]? = some x) (hn : l.length = n) : (l.take k ++ List.replicate (n - k) z).set k x = l.take (k + 1) ++ List.replicate (n - (k + 1)) z := by
  have hlt : k < l.length := (List.getElem?_eq_some_iff.1 hk).1
  have h1 : (l.take k).length = k := by simp; omega
  rw [List.set_append_right _ _ (by omega), h1, Nat.sub_self, show n - k = (n - (k + 1)) + 1 by omega, List.replicate_succ, List.set_cons_zero, take_snoc hk, List.append_assoc]
  rfl
def findR (z : Zone) (q : Quest) : Signed × Bool × Int :=
  if (!questB q || !validZ z) = true then (zeroSg, false, 1) else if (!hasS z.sets q) = true then (zeroSg, false, 0) else ((z.sets[posOf z.sets q]?).getD zeroSg, true, 0)
theorem inForm_small {l : List Sig} {a : Bs} (h : inForm l a = true) : l.length ≤ 6 := by
  simp [inForm] at h; omega
theorem setB_small {s : RSet} (h : setB s = true) : s.data.length ≤ 8 := by
  unfold setB at h; simp only [Bool.and_eq_true, Bool.not_eq_true', Bool.or_eq_false_iff, Bool.not_eq_false'] at h; have := h.1.1.2; simp [within] at this; omega
theorem valid_small {z : Zone} (h : validZ z = true) : ∀ s ∈ z.sets, Small s := fun s hs => by
  have ho := validZ_ordered h
  refine ⟨by have := setB_small (ho.set s hs); omega, ?_⟩
  simp only [validZ, Bool.and_eq_true] at h
  have hf := h.2.2
  simp only [formB, List.all_eq_true] at hf
  obtain ⟨i, hi, rfl⟩ := List.getElem_of_mem hs
  have := hf i (List.mem_range.2 hi)
  simp only [frmAt, List.getElem?_eq_getElem hi] at this
  have := inForm_small this
  omega
end NP
namespace Go.Proofs.YtpbidmocchbbiaaDoor
open NQ Go NP Go.RowKit

theorem cloneData_fn (rows : List (List D)) (hl : rows.length ≤ 100000) : NQ.Fn cx 61 [.slice 3 rows] (.d (.slice 3 rows)) [] := by
  refine fn_of_vc tyOk mixed Tryd.func61 (by kernel_rfl) rfl (Nat.le_of_ble_eq_true rfl) ?_; conv => whnf
  refine ⟨fun h => ?_, ?_⟩
  · refine ret_data rfl ?_
    rw [List.isEmpty_iff.1 h]; rfl
  · conv => whnf
    refine ⟨by (show 0 + rows.length ≤ _; omega), by (show (0 + rows.length) * 32 ≤ _; omega), ?_⟩
    conv => whnf
    exact ret_data rfl rfl
theorem cloneSigs_fn (rows : List (List D)) (hl : rows.length ≤ 100000) : NQ.Fn cx 62 [.slice 6 rows] (.d (.slice 6 rows)) [] := by
  refine fn_of_vc tyOk mixed Tryd.func62 (by kernel_rfl) rfl (Nat.le_of_ble_eq_true rfl) ?_; conv => whnf
  refine ⟨fun h => ?_, ?_⟩
  · refine ret_data rfl ?_
    rw [List.isEmpty_iff.1 h]; rfl
  · conv => whnf
    refine ⟨by (show 0 + rows.length ≤ _; omega), by (show (0 + rows.length) * 56 ≤ _; omega), ?_⟩
    conv => whnf
    exact ret_data rfl rfl
theorem clone_fn (s : Signed) (h1 : s.set.data.length ≤ 100000) (h2 : s.sigs.length ≤ 100000) : NQ.Fn cx 39 [.agg (signedD s)] (.agg ((signedD s).map .d)) [] := by
  refine fn_of_vc tyOk mixed Tryd.func39 (by kernel_rfl) rfl (Nat.le_of_ble_eq_true rfl) ?_; conv => whnf
  (refine ⟨_, _, cloneData_fn _ (by simpa using h1), ?_⟩; conv => whnf)
  (refine ⟨_, _, cloneSigs_fn _ (by simpa using h2), ?_⟩; conv => whnf)
  exact ret_data rfl rfl

theorem cloneZone_fn (z : Zone) (hn : z.sets.length ≤ 100000) (hs : ∀ s ∈ z.sets, Small s) :
    NQ.Fn cx 44 [.agg (zoneD z)] (.agg [.d (.str z.apex), .own 9]) [(9, .row 41 5 (z.sets.map signedD) true)] := by
  refine fn_of_vc tyOk mixed Tryd.func44 (by kernel_rfl) rfl (Nat.le_of_ble_eq_true rfl) ?_; conv => whnf
  refine ⟨by omega, .inl rfl, by omega, by (simp only [List.length_map]; omega), by (simp only [List.length_map]; omega), ?_⟩
  conv => whnf
  refine ⟨Nat, fun k => ⟨[(1, .ptr 1 0), (2, .ptr 2 0), (3, .own 9), (11, .d (.slice 5 (z.sets.map signedD))), (12, .d (.int .i64 ((z.sets.map signedD).length : Int))), (13, .d (.int .i64 k))],
      [(1, .box ((zoneD z).map .d)), (2, .box [.d (.str []), .nil 5]), (9, .row 41 5 ((z.sets.take k ++ List.replicate (z.sets.length - k) zeroSg).map signedD) true)]⟩,
    fun k => k ≤ z.sets.length, fun k => z.sets.length - k, ⟨0, by omega, Weak.keep ⟨⟨rfl, rfl⟩, ⟨rfl, rfl⟩, ⟨rfl, rfl⟩, ⟨rfl, rfl⟩, ⟨rfl, rfl⟩, ⟨rfl, rfl⟩, trivial⟩ ⟨⟨rfl, rfl⟩, ⟨rfl, rfl⟩, ⟨by (show some (Blk.row _ _ (List.replicate ((z.sets.map signedD).length : Int).toNat _) true) = some (Blk.row _ _ _ true); simp [signedD, zeroSg]; done), rfl⟩, trivial⟩⟩, fun k hk => ?_⟩
  conv => whnf
  refine bcase_intro (fun h1 => ?_) (fun h1 => ?_) <;> (rw [h1]; conv => whnf)
  · have hlt : k < z.sets.length := by simp at h1; omega
    obtain ⟨s, hsk⟩ : ∃ s, z.sets[k]? = some s := ⟨_, List.getElem?_eq_getElem hlt⟩
    refine ⟨Int.natCast_nonneg k, signedD s, map_get hsk, ?_⟩
    conv => whnf
    have hsm := hs s (List.mem_of_getElem? hsk)
    (refine ⟨_, _, clone_fn s hsm.1 hsm.2, ?_⟩; conv => whnf)
    refine ⟨Int.natCast_nonneg k, by (simp; omega), ?_⟩
    conv => whnf
    have hrk : ((z.sets.take k ++ List.replicate (z.sets.length - k) zeroSg).map signedD)[k]? = some (signedD zeroSg) := by
      rw [List.getElem?_map, List.getElem?_append_right (by simp; omega), List.getElem?_replicate, if_pos (by simp; omega)]; rfl
    refine ⟨_, hrk, ?_⟩
    conv => whnf
    refine ⟨k + 1, hlt, by (show z.sets.length - (k + 1) < z.sets.length - k; omega), Weak.keep ⟨⟨rfl, rfl⟩, ⟨rfl, rfl⟩, ⟨rfl, rfl⟩, ⟨rfl, rfl⟩, ⟨rfl, rfl⟩, ⟨wrap_succ (by omega), rfl⟩, trivial⟩ ⟨⟨rfl, rfl⟩, ⟨rfl, rfl⟩, ⟨?_, rfl⟩, trivial⟩⟩
    show some (Blk.row _ _ (List.set _ k (signedD s)) true) = some (Blk.row _ _ _ true)
    rw [← List.map_set, set_row hsk rfl]
  · obtain rfl : k = z.sets.length := by simp at h1; omega
    refine ret_keep rfl rfl ⟨⟨?_, rfl⟩, trivial⟩
    show some (Blk.row _ _ _ true) = some (Blk.row _ _ _ true)
    rw [List.take_length, Nat.sub_self, List.replicate_zero, List.append_nil]
theorem zfind_fn (z : Zone) (q : Quest) : NQ.Fn cx 17 [.agg (zoneD z), .agg (questD q)] (.tuple [.agg ((signedD (findR z q).1).map .d), .d (.bool (findR z q).2.1), .d (.int .i64 (findR z q).2.2)]) [] := by
  refine fn_of_vc tyOk mixed Tryd.func17 (by kernel_rfl) rfl (Nat.le_of_ble_eq_true rfl) ?_; conv => whnf
  (refine ⟨_, _, questB_fn q, ?_⟩; conv => whnf)
  have bad : (!questB q || !validZ z) = true → findR z q = (zeroSg, false, 1) := fun h => by rw [findR, if_pos h]
  (refine bcase_intro (fun h => ?_) (fun h => ?_) <;> (rw [h]; conv => whnf))
  · refine ret_data rfl ?_; rw [bad (by simp [h])]; rfl
  have hq0 := h
  (refine ⟨_, _, zvalid_fn z, ?_⟩; conv => whnf)
  (refine bcase_intro (fun h => ?_) (fun h => ?_) <;> (rw [h]; conv => whnf))
  · refine ret_data rfl ?_; rw [bad (by simp [h])]; rfl
  have hq : questB q = true := by simpa using hq0
  have hv : validZ z = true := by simpa using h
  have hqn : validN q.name = true := by simp [questB] at hq; exact hq.1.1
  have ho := validZ_ordered hv
  (refine ⟨_, _, find_ok ho q hqn, ?_⟩; conv => whnf)
  (refine bcase_intro (fun h => ?_) (fun h => ?_) <;> (rw [h]; conv => whnf))
  · refine ret_data rfl ?_; rw [findR, if_neg (by simp [hq, hv]), if_pos (by assumption)]; rfl
  have hh := h
  obtain ⟨s, hs, hm, _⟩ := found_ok ho hqn (by simpa using hh)
  refine ⟨Int.natCast_nonneg _, signedD s, map_get hs, ?_⟩
  conv => whnf
  have hsm := valid_small hv s hm
  (refine ⟨_, _, clone_fn s hsm.1 hsm.2, ?_⟩; conv => whnf)
  refine ret_data rfl ?_
  rw [findR, if_neg (by simp [hq, hv]), if_neg (by simpa using hh), hs]; rfl
end Go.Proofs.YtpbidmocchbbiaaDoor

/-
  Contracts of zone.Put and zone.Drop on plain data.
-/
set_option linter.unusedSimpArgs false
set_option linter.unusedVariables false
set_option maxRecDepth 100000
namespace NP
open NQ Go
def zeroZn : Zone := ⟨[], []⟩
def qOf (s : Signed) : Quest := ⟨s.set.name, s.set.type⟩
def insAt (l : List Signed) (i : Nat) (s : Signed) : List Signed := l.take i ++ [s] ++ l.drop i
/-- The sets with one put in. -/
def putL (l : List Signed) (s : Signed) : List Signed := if hasS l (qOf s) = true then l.set (posOf l (qOf s)) s else insAt l (posOf l (qOf s)) s
def putZ (z : Zone) (s : Signed) : Zone := ⟨z.apex, putL z.sets s⟩
def putR (z : Zone) (s : Signed) : Zone × Int :=
  if (!setB s.set || !validZ z) = true then (zeroZn, 1)
  else if (!inForm s.sigs z.apex) = true then (zeroZn, 30)
  else if (!(underR s.set.name z.apex).1) = true then (zeroZn, 20)
  else if (!fits s.set.type (s.set.name == z.apex)) = true then (zeroZn, 22)
  else if (!hasS z.sets (qOf s) && decide ((z.sets.length : Int) ≥ 20000)) = true then (zeroZn, 2)
  else if (!aliases (putZ z s)) = true then (zeroZn, 21)
  else if (!cutsB (putZ z s) (behindOf (putZ z s))) = true then (zeroZn, 20)
  else if (!sigsB (putZ z s) (behindOf (putZ z s))) = true then (zeroZn, 30)
  else (putZ z s, 0)
def dropL (l : List Signed) (q : Quest) : List Signed := l.take (posOf l q) ++ l.drop (posOf l q + 1)
def dropZ (z : Zone) (q : Quest) : Zone := ⟨z.apex, dropL z.sets q⟩
def dropR (z : Zone) (q : Quest) : Zone × Int :=
  if (!questB q || !validZ z) = true then (zeroZn, 1)
  else if (!hasS z.sets q) = true then (zeroZn, 4)
  else if ((q.name == z.apex) && ((q.type == 4) || (q.type == 2))) = true then (zeroZn, 22)
  else if (!cutsB (dropZ z q) (behindOf (dropZ z q))) = true then (zeroZn, 20)
  else (dropZ z q, 0)
end NP
namespace Go.Proofs.YtpbidmocchbbiaaDoor
open NQ Go NP Go.RowKit

theorem drop_fn (z : Zone) (q : Quest) : NQ.Fn cx 21 [.agg (zoneD z), .agg (questD q)] (.tuple [.agg ((zoneD (dropR z q).1).map .d), .d (.int .i64 (dropR z q).2)]) [] := by
  refine fn_of_vcz (fun | 10 => [9] | _ => []) tyOk mixed Tryd.func21 (by kernel_rfl) rfl (Nat.le_of_ble_eq_true rfl) ?_
  conv => whnf
  (refine ⟨_, _, questB_fn q, ?_⟩; conv => whnf)
  have bad : (!questB q || !validZ z) = true → dropR z q = (zeroZn, 1) := fun h => by rw [dropR, if_pos h]
  (refine bcase_intro (fun h => ?_) (fun h => ?_) <;> (rw [h]; conv => whnf))
  · refine ret_data rfl ?_; rw [bad (by simp [h])]; rfl
  have hq0 := h
  (refine ⟨_, _, zvalid_fn z, ?_⟩; conv => whnf)
  (refine bcase_intro (fun h => ?_) (fun h => ?_) <;> (rw [h]; conv => whnf))
  · refine ret_data rfl ?_; rw [bad (by simp [h])]; rfl
  have hq : questB q = true := by simpa using hq0
  have hv : validZ z = true := by simpa using h
  have hqn : validN q.name = true := by simp [questB] at hq; exact hq.1.1
  have ho := validZ_ordered hv
  (refine ⟨_, _, find_ok ho q hqn, ?_⟩; conv => whnf)
  (refine bcase_intro (fun h => ?_) (fun h => ?_) <;> (rw [h]; conv => whnf))
  · refine ret_data rfl ?_; rw [dropR, if_neg (by simp [hq, hv]), if_pos (by assumption)]; rfl
  have hh : hasS z.sets q = true := by simpa using h
  obtain ⟨s, hs, hm, _⟩ := found_ok ho hqn hh
  have hlt : posOf z.sets q < z.sets.length := (List.getElem?_eq_some_iff.1 hs).1
  have hfew := ho.few
  have hap : ((q.name == z.apex) && ((q.type == 4) || (q.type == 2))) = true → dropR z q = (zeroZn, 22) := fun h => by rw [dropR, if_neg (by simp [hq, hv]), if_neg (by simp [hh]), if_pos h]
  have cont : ((q.name == z.apex) && ((q.type == 4) || (q.type == 2))) = false → dropR z q = if (!cutsB (dropZ z q) (behindOf (dropZ z q))) = true then (zeroZn, 20) else (dropZ z q, 0) := fun h => by rw [dropR, if_neg (by simp [hq, hv]), if_neg (by simp [hh]), if_neg (by simp [h])]
  have hdel : FnR cx 46 true 41 5 (z.sets.map signedD) true [.int .i64 (posOf z.sets q : Nat), .int .i64 (IntKind.i64.wrap ((posOf z.sets q : Nat) + 1))] ((dropZ z q).sets.map signedD) := by
    have := delete_fnr (z.sets.map signedD) true (posOf z.sets q) (posOf z.sets q + 1) (by omega) (by simp; omega)
    rw [← List.map_take, ← List.map_drop, ← List.map_append] at this
    rw [wrap_add (by omega)]
    exact this
  have hdl : (dropZ z q).sets.length ≤ 100000 := by simp [dropZ, dropL]; omega
  have hbl : (behindOf (dropZ z q)).length = (dropZ z q).sets.length := bh_length _ _ _
  repeat' (first
    | (refine ⟨(by kernel_rfl : planOk _ _ = true), ?_⟩; conv => whnf)
    | (refine bcase_intro (fun h => ?_) (fun h => ?_) <;> (rw [h]; conv => whnf))
    | (refine ⟨_, _, cloneZone_fn z (by omega) (valid_small hv), ?_⟩; conv => whnf)
    | (refine ⟨_, hdel, ?_⟩; conv => whnf)
    | (refine ⟨_, _, lay_fn (dropZ z q) hdl, ?_⟩; conv => whnf)
    | (refine ⟨_, _, cutsHold_fn (dropZ z q) _ hdl hbl, ?_⟩; conv => whnf)
    | (refine ret_data rfl ?_; rw [hap (by (simp only [*, if_true, if_false, Bool.false_eq_true, Bool.not_true, Bool.not_false, Bool.not_not, Bool.true_or, Bool.or_true, Bool.false_or, Bool.or_false, Bool.and_true, Bool.true_and, Bool.false_and, Bool.and_false]; done))]; rfl)
    | (refine ret_data rfl ?_; rw [cont (by (simp only [*, if_true, if_false, Bool.false_eq_true, Bool.not_true, Bool.not_false, Bool.not_not, Bool.true_or, Bool.or_true, Bool.false_or, Bool.or_false, Bool.and_true, Bool.true_and, Bool.false_and, Bool.and_false]; done)), if_pos (by assumption)]; rfl)
    | (refine ret_data rfl ?_; rw [cont (by (simp only [*, if_true, if_false, Bool.false_eq_true, Bool.not_true, Bool.not_false, Bool.not_not, Bool.true_or, Bool.or_true, Bool.false_or, Bool.or_false, Bool.and_true, Bool.true_and, Bool.false_and, Bool.and_false]; done)), if_neg (by (simp only [*, if_true, if_false, Bool.false_eq_true, Bool.not_true, Bool.not_false, Bool.not_not, Bool.true_or, Bool.or_true, Bool.false_or, Bool.or_false, Bool.and_true, Bool.true_and, Bool.false_and, Bool.and_false, not_false_eq_true]; done))]; rfl)
    | fail)

set_option maxHeartbeats 4000000 in
theorem put_fn (z : Zone) (s : Signed) : NQ.Fn cx 20 [.agg (zoneD z), .agg (signedD s)] (.tuple [.agg ((zoneD (putR z s).1).map .d), .d (.int .i64 (putR z s).2)]) [] := by
  refine fn_of_vcz (fun | 18 => [9] | 23 => [99999] | _ => []) tyOk mixed Tryd.func20 (by kernel_rfl) rfl (Nat.le_of_ble_eq_true rfl) ?_
  conv => whnf
  (refine ⟨_, _, recValid_fn s.set, ?_⟩; conv => whnf)
  have bad : (!setB s.set || !validZ z) = true → putR z s = (zeroZn, 1) := fun h => by rw [putR, if_pos h]
  (refine bcase_intro (fun h => ?_) (fun h => ?_) <;> (rw [h]; conv => whnf))
  · refine ret_data rfl ?_; rw [bad (by simp [h])]; rfl
  have hq0 := h
  (refine ⟨_, _, zvalid_fn z, ?_⟩; conv => whnf)
  (refine bcase_intro (fun h => ?_) (fun h => ?_) <;> (rw [h]; conv => whnf))
  · refine ret_data rfl ?_; rw [bad (by simp [h])]; rfl
  have hset : setB s.set = true := by simpa using hq0
  have hv : validZ z = true := by simpa using h
  have hqn : validN s.set.name = true := setB_valid hset
  have ho := validZ_ordered hv
  have hfew := ho.few
  have c1 : ¬ (!setB s.set || !validZ z) = true := by simp [hset, hv]
  (refine ⟨_, _, inForm_fn s.sigs z.apex, ?_⟩; conv => whnf)
  (refine bcase_intro (fun h => ?_) (fun h => ?_) <;> (rw [h]; conv => whnf))
  · refine ret_data rfl ?_; rw [putR, if_neg c1, if_pos h]; rfl
  have hform : inForm s.sigs z.apex = true := by simpa using h
  have c2 : ¬ (!inForm s.sigs z.apex) = true := by simp [hform]
  (refine ⟨_, _, Under_fn s.set.name z.apex, ?_⟩; conv => whnf)
  (refine bcase_intro (fun h => ?_) (fun h => ?_) <;> (rw [h]; conv => whnf))
  · refine ret_data rfl ?_; rw [putR, if_neg c1, if_neg c2, if_pos h]; rfl
  have c3 : ¬ (!(underR s.set.name z.apex).1) = true := by rw [h]; simp
  (refine ⟨_, _, fitsApex_fn s.set.type (s.set.name == z.apex), ?_⟩; conv => whnf)
  (refine bcase_intro (fun h => ?_) (fun h => ?_) <;> (rw [h]; conv => whnf))
  · refine ret_data rfl ?_; rw [putR, if_neg c1, if_neg c2, if_neg c3, if_pos h]; rfl
  have c4 : ¬ (!fits s.set.type (s.set.name == z.apex)) = true := by rw [h]; simp
  (refine ⟨_, _, find_ok ho (qOf s) hqn, ?_⟩; conv => whnf)
  have h4 : (!hasS z.sets (qOf s) && decide ((z.sets.length : Int) ≥ 20000)) = true → putR z s = (zeroZn, 2) := fun h => by rw [putR, if_neg c1, if_neg c2, if_neg c3, if_neg c4, if_pos h]
  have cont : (!hasS z.sets (qOf s) && decide ((z.sets.length : Int) ≥ 20000)) = false → putR z s = if (!aliases (putZ z s)) = true then (zeroZn, 21) else if (!cutsB (putZ z s) (behindOf (putZ z s))) = true then (zeroZn, 20)
    else if (!sigsB (putZ z s) (behindOf (putZ z s))) = true then (zeroZn, 30) else (putZ z s, 0) := fun h => by rw [putR, if_neg c1, if_neg c2, if_neg c3, if_neg c4, if_neg (by simp [h])]
  obtain ⟨hsp, hfd⟩ := split_of (qOf s) hqn z.sets ho.rising ho.name
  have hpos : posOf z.sets (qOf s) ≤ z.sets.length := hsp.1
  have hsm : Small s := ⟨by have := setB_small hset; omega, by have := inForm_small hform; omega⟩
  have hpl : (putZ z s).sets.length ≤ 100000 := by
    simp only [putZ, putL]; split <;> simp [insAt] <;> omega
  have hbl : (behindOf (putZ z s)).length = (putZ z s).sets.length := bh_length _ _ _
  obtain ⟨fd, hfd0⟩ : ∃ fd, hasS z.sets (qOf s) = fd := ⟨_, rfl⟩
  rw [hfd0] at h4 cont ⊢
  have hset : (putZ z s).sets = putL z.sets s := rfl
  cases fd with
  | false =>
    have hput : putL z.sets s = insAt z.sets (posOf z.sets (qOf s)) s := by rw [putL, if_neg (by simp [hfd0])]
    conv => whnf
    (refine bcase_intro (fun h => ?_) (fun h => ?_) <;> (rw [h]; conv => whnf))
    · refine ret_data rfl ?_; rw [h4 (by (simp only [List.length_map] at h; simp [h]))]; rfl
    have c5 : (!false && decide ((z.sets.length : Int) ≥ 20000)) = false := by simp only [List.length_map] at h; simp [h]
    have cont := cont c5
    (refine ⟨_, _, cloneZone_fn z (by omega) (valid_small hv), ?_⟩; conv => whnf)
    (refine ⟨(by kernel_rfl : planOk _ _ = true), ?_⟩; conv => whnf)
    (refine ⟨_, _, clone_fn s hsm.1 hsm.2, ?_⟩; conv => whnf)
    have hins : FnR cx 45 true 41 5 (z.sets.map signedD) true [.int .i64 (posOf z.sets (qOf s) : Nat), .slice 5 [signedD s]] ((putZ z s).sets.map signedD) := by
      have := insert_fnr (z.sets.map signedD) (posOf z.sets (qOf s)) (signedD s) (by simpa using hpos) (by simp; omega)
      rw [hset, hput, insAt, List.map_append, List.map_append, List.map_take, List.map_drop]
      exact this
    refine ⟨_, hins, ?_⟩
    conv => whnf
    (refine ⟨_, _, lay_fn (putZ z s) hpl, ?_⟩; conv => whnf)
    (refine ⟨Nat, fun k => ⟨[(4, .ptr 4 0), (10, .ptr 10 0), (12, .ptr 12 0), (105, .own 102), (106, .d (.int .i64 3)), (107, .d (.int .i64 k))], [(4, .box [.d (.str []), .nil 5]), (10, .box ((zoneD (putZ z s)).map .d)), (12, .box ((layD (putZ z s) (behindOf (putZ z s))).map .d)), (102, .row 86 2 [[.fn 34 [] [], .int .i64 21], [.fn 35 [] [], .int .i64 20], [.fn 36 [] [], .int .i64 30]])]⟩,
      fun k => k ≤ 3 ∧ (1 ≤ k → aliases (putZ z s) = true) ∧ (2 ≤ k → cutsB (putZ z s) (behindOf (putZ z s)) = true) ∧ (3 ≤ k → sigsB (putZ z s) (behindOf (putZ z s)) = true), fun k => 3 - k,
      ⟨0, ⟨by omega, fun h => by omega, fun h => by omega, fun h => by omega⟩, Weak.keep ⟨⟨rfl, rfl⟩, ⟨rfl, rfl⟩, ⟨rfl, rfl⟩, ⟨rfl, rfl⟩, ⟨rfl, rfl⟩, ⟨rfl, rfl⟩, trivial⟩ ⟨⟨rfl, rfl⟩, ⟨rfl, rfl⟩, ⟨rfl, rfl⟩, ⟨rfl, rfl⟩, trivial⟩⟩, ?_⟩
     rintro k ⟨hk, a1, a2, a3⟩
     rcases k with _ | _ | _ | _ | k
     all_goals conv => whnf)
    all_goals repeat' (first
      | (exact absurd hk (by omega))
      | (refine ⟨by decide, by decide, ?_⟩; conv => whnf)
      | (refine ⟨_, rfl, ?_⟩; conv => whnf)
      | (refine ⟨_, _, aliasesHold_fn (putZ z s) _ hpl, ?_⟩; conv => whnf)
      | (refine ⟨_, _, cutsHold_fn (putZ z s) _ hpl hbl, ?_⟩; conv => whnf)
      | (refine ⟨_, _, sigsHold_fn (putZ z s) _ hpl hbl, ?_⟩; conv => whnf)
      | (refine ⟨(by kernel_rfl : planOk _ _ = true), ?_⟩; conv => whnf)
      | (refine bcase_intro (fun h => ?_) (fun h => ?_) <;> (rw [h]; conv => whnf))
      | (refine ⟨0 + 1, ⟨by omega, fun _ => by simpa using h, fun h => by omega, fun h => by omega⟩, by decide, Weak.keep ⟨⟨rfl, rfl⟩, ⟨rfl, rfl⟩, ⟨rfl, rfl⟩, ⟨rfl, rfl⟩, ⟨rfl, rfl⟩, ⟨rfl, rfl⟩, trivial⟩ ⟨⟨rfl, rfl⟩, ⟨rfl, rfl⟩, ⟨rfl, rfl⟩, ⟨rfl, rfl⟩, trivial⟩⟩; done)
      | (refine ⟨0 + 1 + 1, ⟨by omega, fun _ => a1 (by omega), fun _ => by simpa using h, fun h => by omega⟩, by decide, Weak.keep ⟨⟨rfl, rfl⟩, ⟨rfl, rfl⟩, ⟨rfl, rfl⟩, ⟨rfl, rfl⟩, ⟨rfl, rfl⟩, ⟨rfl, rfl⟩, trivial⟩ ⟨⟨rfl, rfl⟩, ⟨rfl, rfl⟩, ⟨rfl, rfl⟩, ⟨rfl, rfl⟩, trivial⟩⟩; done)
      | (refine ⟨0 + 1 + 1 + 1, ⟨by omega, fun _ => a1 (by omega), fun _ => a2 (by omega), fun _ => by simpa using h⟩, by decide, Weak.keep ⟨⟨rfl, rfl⟩, ⟨rfl, rfl⟩, ⟨rfl, rfl⟩, ⟨rfl, rfl⟩, ⟨rfl, rfl⟩, ⟨rfl, rfl⟩, trivial⟩ ⟨⟨rfl, rfl⟩, ⟨rfl, rfl⟩, ⟨rfl, rfl⟩, ⟨rfl, rfl⟩, trivial⟩⟩; done)
      | (refine ret_data rfl ?_; rw [cont, if_neg (by simp [a1 (by omega)]), if_neg (by simp [a2 (by omega)]), if_neg (by simp [a3 (by omega)])]; rfl)
      | (refine ret_data rfl ?_; rw [cont, if_neg (by simp [a1 (by omega)]), if_neg (by simp [a2 (by omega)]), if_pos (by assumption)]; rfl)
      | (refine ret_data rfl ?_; rw [cont, if_neg (by simp [a1 (by omega)]), if_pos (by assumption)]; rfl)
      | (refine ret_data rfl ?_; rw [cont, if_pos (by assumption)]; rfl)
      | (refine And.intro ?_ ?_ <;> (conv => whnf))
      | fail)
  | true =>
    have hput : putL z.sets s = z.sets.set (posOf z.sets (qOf s)) s := by rw [putL, if_pos hfd0]
    have cont := cont (by simp)
    obtain ⟨s0, hs0, _, _⟩ := found_ok ho hqn hfd0
    conv => whnf
    (refine ⟨_, _, cloneZone_fn z (by omega) (valid_small hv), ?_⟩; conv => whnf)
    (refine ⟨(by kernel_rfl : planOk _ _ = true), ?_⟩; conv => whnf)
    (refine ⟨_, _, clone_fn s hsm.1 hsm.2, ?_⟩; conv => whnf)
    refine ⟨Int.natCast_nonneg _, by (have := (List.getElem?_eq_some_iff.1 hs0).1; simpa using this), ?_⟩
    conv => whnf
    refine ⟨_, map_get hs0, ?_⟩
    conv => whnf
    have hlay : NQ.Fn cx 24 [.agg [.str z.apex, .slice 5 ((z.sets.map signedD).set (posOf z.sets (qOf s)) (signedD s))]] (.agg ((layD (putZ z s) (behindOf (putZ z s))).map .d)) [] := by
      have := lay_fn (putZ z s) hpl
      rw [← List.map_set, ← hput]; exact this
    (refine ⟨_, _, hlay, ?_⟩; conv => whnf)
    (refine ⟨Nat, fun k => ⟨[(4, .ptr 4 0), (10, .ptr 10 0), (12, .ptr 12 0), (105, .own 102), (106, .d (.int .i64 3)), (107, .d (.int .i64 k))], [(4, .box [.d (.str []), .nil 5]), (10, .box ((zoneD (putZ z s)).map .d)), (12, .box ((layD (putZ z s) (behindOf (putZ z s))).map .d)), (102, .row 86 2 [[.fn 34 [] [], .int .i64 21], [.fn 35 [] [], .int .i64 20], [.fn 36 [] [], .int .i64 30]])]⟩,
      fun k => k ≤ 3 ∧ (1 ≤ k → aliases (putZ z s) = true) ∧ (2 ≤ k → cutsB (putZ z s) (behindOf (putZ z s)) = true) ∧ (3 ≤ k → sigsB (putZ z s) (behindOf (putZ z s)) = true), fun k => 3 - k,
      ⟨0, ⟨by omega, fun h => by omega, fun h => by omega, fun h => by omega⟩, Weak.keep ⟨⟨rfl, rfl⟩, ⟨rfl, rfl⟩, ⟨rfl, rfl⟩, ⟨rfl, rfl⟩, ⟨rfl, rfl⟩, ⟨rfl, rfl⟩, trivial⟩ ⟨⟨rfl, rfl⟩, ⟨by (show some (Blk.box [AV.d (D.str z.apex), AV.d (D.slice 5 ((z.sets.map signedD).set (posOf z.sets (qOf s)) (signedD s)))]) = _; rw [← List.map_set, ← hput]; rfl), rfl⟩, ⟨rfl, rfl⟩, ⟨rfl, rfl⟩, trivial⟩⟩, ?_⟩
     rintro k ⟨hk, a1, a2, a3⟩
     rcases k with _ | _ | _ | _ | k
     all_goals conv => whnf)
    all_goals repeat' (first
      | (exact absurd hk (by omega))
      | (refine ⟨by decide, by decide, ?_⟩; conv => whnf)
      | (refine ⟨_, rfl, ?_⟩; conv => whnf)
      | (refine ⟨_, _, aliasesHold_fn (putZ z s) _ hpl, ?_⟩; conv => whnf)
      | (refine ⟨_, _, cutsHold_fn (putZ z s) _ hpl hbl, ?_⟩; conv => whnf)
      | (refine ⟨_, _, sigsHold_fn (putZ z s) _ hpl hbl, ?_⟩; conv => whnf)
      | (refine ⟨(by kernel_rfl : planOk _ _ = true), ?_⟩; conv => whnf)
      | (refine bcase_intro (fun h => ?_) (fun h => ?_) <;> (rw [h]; conv => whnf))
      | (refine ⟨0 + 1, ⟨by omega, fun _ => by simpa using h, fun h => by omega, fun h => by omega⟩, by decide, Weak.keep ⟨⟨rfl, rfl⟩, ⟨rfl, rfl⟩, ⟨rfl, rfl⟩, ⟨rfl, rfl⟩, ⟨rfl, rfl⟩, ⟨rfl, rfl⟩, trivial⟩ ⟨⟨rfl, rfl⟩, ⟨rfl, rfl⟩, ⟨rfl, rfl⟩, ⟨rfl, rfl⟩, trivial⟩⟩; done)
      | (refine ⟨0 + 1 + 1, ⟨by omega, fun _ => a1 (by omega), fun _ => by simpa using h, fun h => by omega⟩, by decide, Weak.keep ⟨⟨rfl, rfl⟩, ⟨rfl, rfl⟩, ⟨rfl, rfl⟩, ⟨rfl, rfl⟩, ⟨rfl, rfl⟩, ⟨rfl, rfl⟩, trivial⟩ ⟨⟨rfl, rfl⟩, ⟨rfl, rfl⟩, ⟨rfl, rfl⟩, ⟨rfl, rfl⟩, trivial⟩⟩; done)
      | (refine ⟨0 + 1 + 1 + 1, ⟨by omega, fun _ => a1 (by omega), fun _ => a2 (by omega), fun _ => by simpa using h⟩, by decide, Weak.keep ⟨⟨rfl, rfl⟩, ⟨rfl, rfl⟩, ⟨rfl, rfl⟩, ⟨rfl, rfl⟩, ⟨rfl, rfl⟩, ⟨rfl, rfl⟩, trivial⟩ ⟨⟨rfl, rfl⟩, ⟨rfl, rfl⟩, ⟨rfl, rfl⟩, ⟨rfl, rfl⟩, trivial⟩⟩; done)
      | (refine ret_data rfl ?_; rw [cont, if_neg (by simp [a1 (by omega)]), if_neg (by simp [a2 (by omega)]), if_neg (by simp [a3 (by omega)])]; rfl)
      | (refine ret_data rfl ?_; rw [cont, if_neg (by simp [a1 (by omega)]), if_neg (by simp [a2 (by omega)]), if_pos (by assumption)]; rfl)
      | (refine ret_data rfl ?_; rw [cont, if_neg (by simp [a1 (by omega)]), if_pos (by assumption)]; rfl)
      | (refine ret_data rfl ?_; rw [cont, if_pos (by assumption)]; rfl)
      | (refine And.intro ?_ ?_ <;> (conv => whnf))
      | fail)
end Go.Proofs.YtpbidmocchbbiaaDoor

/-
  The examples of layer 6: contracts of set, example, Texts, head.
-/
set_option linter.unusedSimpArgs false
set_option linter.unusedVariables false
set_option maxRecDepth 100000
namespace NP
open NQ Go
def oneSet (n : Bs) (k : Int) (t : Bs) (a b : Int) : Signed := ⟨⟨n, k, 60, [⟨t, a, b⟩]⟩, []⟩
def exZ : Zone := ⟨[120], [oneSet [120] 2 [97, 46, 110, 115] 0 0, oneSet [120] 4 [] 1 60, oneSet [119, 46, 120] 1 [] 7 0, oneSet [121, 46, 120] 2 [98, 46, 121, 46, 120] 0 0, oneSet [98, 46, 121, 46, 120] 1 [] 9 0]⟩
def txAt (a b : List Bs) (i : Nat) : Bool := match a[i]?, b[i]? with | some x, some y => !(!(x == y)) | _, _ => false
def textsB (a b : List Bs) : Bool := !((a.length : Int) != (b.length : Int)) && (List.range a.length).all (txAt a b)
theorem textsB_iff {a b : List Bs} : textsB a b = true ↔ a = b := by
  unfold textsB
  constructor
  · intro h
    simp only [Bool.and_eq_true, List.all_eq_true, List.mem_range, Bool.not_eq_true', bne_eq_false_iff_eq] at h
    obtain ⟨h1, h2⟩ := h
    have hl : a.length = b.length := by omega
    apply List.ext_getElem? 
    intro i
    by_cases hi : i < a.length
    · have := h2 i hi
      simp only [txAt, List.getElem?_eq_getElem hi, List.getElem?_eq_getElem (show i < b.length by omega), Bool.not_not, beq_iff_eq] at this
      rw [List.getElem?_eq_getElem hi, List.getElem?_eq_getElem (show i < b.length by omega), this]
    · rw [List.getElem?_eq_none (by omega), List.getElem?_eq_none (by omega)]
  · rintro rfl
    simp only [Bool.and_eq_true, List.all_eq_true, List.mem_range, Bool.not_eq_true', bne_self_eq_false, true_and]
    intro i hi
    simp [txAt, List.getElem?_eq_getElem hi]
end NP
namespace Go.Proofs.YtpbidmocchbbiaaDoor
open NQ Go NP Go.RowKit

theorem lset_fn (n : Bs) (k : Int) (t : Bs) (a b : Int) : NQ.Fn cx 13 [.str n, .int .i64 k, .str t, .int .i64 a, .int .i64 b] (.agg ((signedD (oneSet n k t a b)).map .d)) [] := by
  refine fn_of_vc tyOk mixed Tryd.func13 (by kernel_rfl) rfl (Nat.le_of_ble_eq_true rfl) ?_; conv => whnf
  exact ret_data rfl rfl
theorem texts_fn (a b : List Bs) (ha : a.length ≤ 100000) (hb : b.length ≤ 100000) : NQ.Fn cx 16 [.slice 1 (a.map strD), .slice 1 (b.map strD)] (.d (.bool (textsB a b))) [] := by
  refine fn_of_vc tyOk mixed Tryd.func16 (by kernel_rfl) rfl (Nat.le_of_ble_eq_true rfl) ?_; conv => whnf
  (refine bcase_intro (fun h => ?_) (fun h => ?_) <;> (rw [h]; conv => whnf))
  · refine ret_data rfl ?_; show AV.d (D.bool false) = _; simp only [List.length_map] at h; simp only [textsB, h]; rfl
  have hl0 := h
  simp only [List.length_map] at hl0
  have hl : a.length = b.length := by simp at hl0; omega
  refine ⟨Nat, fun k => ⟨[(0, .d (.slice 1 (a.map strD))), (1, .d (.slice 1 (b.map strD))), (5, .d (.int .i64 k))], []⟩, fun k => k ≤ a.length ∧ (List.range k).all (txAt a b) = true, fun k => a.length - k, ⟨0, ⟨by omega, rfl⟩, Weak.keep ⟨⟨rfl, rfl⟩, ⟨rfl, rfl⟩, ⟨rfl, rfl⟩, trivial⟩ trivial⟩, fun k ⟨hk, hall⟩ => ?_⟩
  conv => whnf
  refine bcase_intro (fun h1 => ?_) (fun h1 => ?_) <;> (rw [h1]; conv => whnf)
  · have hlt : k < a.length := by simp at h1; omega
    have hlt2 : k < b.length := by omega
    obtain ⟨x, hx⟩ : ∃ s, a[k]? = some s := ⟨_, List.getElem?_eq_getElem hlt⟩
    obtain ⟨y, hy⟩ : ∃ s, b[k]? = some s := ⟨_, List.getElem?_eq_getElem hlt2⟩
    have hat : txAt a b k = !(!(x == y)) := by simp only [txAt, hx, hy]
    (refine ⟨(by kernel_rfl : planOk _ _ = true), ?_⟩; conv => whnf)
    refine ⟨Int.natCast_nonneg k, strD x, map_get hx, ?_⟩
    conv => whnf
    refine ⟨Int.natCast_nonneg k, strD y, map_get hy, ?_⟩
    conv => whnf
    (refine bcase_intro (fun h => ?_) (fun h => ?_) <;> (rw [h]; conv => whnf))
    · refine ret_data rfl ?_; show AV.d (D.bool false) = _
      rw [textsB, range_all_false hlt (by rw [hat, h]; rfl), Bool.and_false]
    · refine ⟨k + 1, ⟨by omega, ?_⟩, by (show a.length - (k + 1) < a.length - k; omega), Weak.keep ⟨⟨rfl, rfl⟩, ⟨rfl, rfl⟩, ⟨wrap_succ (by omega), rfl⟩, trivial⟩ trivial⟩
      rw [range_all_succ, hall, hat, h]; rfl
  · refine ret_data rfl ?_
    obtain rfl : k = a.length := by simp at h1; omega
    show AV.d (D.bool true) = _
    rw [textsB, hall, hl0]; rfl
theorem example_fn : NQ.Fn cx 19 [] (.agg ((zoneD exZ).map .d)) [] := by
  refine fn_of_vc tyOk mixed Tryd.func19 (by kernel_rfl) rfl (Nat.le_of_ble_eq_true rfl) ?_; conv => whnf
  repeat' (first
    | (refine ⟨_, _, lset_fn _ _ _ _ _, ?_⟩; conv => whnf)
    | fail)
  exact ret_data rfl rfl

theorem head_fn : NQ.Fn cx 7 [] (.d (.bool true)) [] := by
  have n1 : namesR exZ = ([[120], [119, 46, 120], [121, 46, 120]], 0) := by kernel_rfl
  have c1 : cutR exZ [98, 46, 121, 46, 120] = ([121, 46, 120], true, 0) := by kernel_rfl
  have c2 : cutR exZ [119, 46, 120] = ([], false, 0) := by kernel_rfl
  have s1 : serialR exZ = (1, 0) := by kernel_rfl
  have p1 : putR exZ (oneSet [98, 46, 121, 46, 120] 5 [97] 0 0) = (zeroZn, 20) := by kernel_rfl
  have p2 : putR exZ (oneSet [119, 46, 120] 3 [120] 0 0) = (zeroZn, 21) := by kernel_rfl
  have d1 : dropR exZ ⟨[121, 46, 120], 2⟩ = (dropZ exZ ⟨[121, 46, 120], 2⟩, 0) := by kernel_rfl
  have n2 : namesR (dropZ exZ ⟨[121, 46, 120], 2⟩) = ([[120], [119, 46, 120], [98, 46, 121, 46, 120]], 0) := by kernel_rfl
  have d2 : dropR exZ ⟨[120], 4⟩ = (zeroZn, 22) := by kernel_rfl
  have v1 : validZ exZ = true := by kernel_rfl
  have v2 : validZ ⟨[120], []⟩ = false := by kernel_rfl
  have fN := names_fn exZ; rw [n1] at fN
  have fC1 := cut_fn exZ [98, 46, 121, 46, 120]; rw [c1] at fC1
  have fC2 := cut_fn exZ [119, 46, 120]; rw [c2] at fC2
  have fS := serial_fn exZ; rw [s1] at fS
  have fP1 := put_fn exZ (oneSet [98, 46, 121, 46, 120] 5 [97] 0 0); rw [p1] at fP1
  have fP2 := put_fn exZ (oneSet [119, 46, 120] 3 [120] 0 0); rw [p2] at fP2
  have fD1 := drop_fn exZ ⟨[121, 46, 120], 2⟩; rw [d1] at fD1
  have fN2 := names_fn (dropZ exZ ⟨[121, 46, 120], 2⟩); rw [n2] at fN2
  have fD2 := drop_fn exZ ⟨[120], 4⟩; rw [d2] at fD2
  have fV1 := zvalid_fn exZ; rw [v1] at fV1
  have fV2 := zvalid_fn ⟨[120], []⟩; rw [v2] at fV2
  have t1 : textsB [[120], [119, 46, 120], [121, 46, 120]] [[120], [119, 46, 120], [121, 46, 120]] = true := by kernel_rfl
  have t2 : textsB [[120], [119, 46, 120], [98, 46, 121, 46, 120]] [[120], [119, 46, 120], [98, 46, 121, 46, 120]] = true := by kernel_rfl
  have fT1 := texts_fn [[120], [119, 46, 120], [121, 46, 120]] [[120], [119, 46, 120], [121, 46, 120]] (by simp) (by simp); rw [t1] at fT1
  have fT2 := texts_fn [[120], [119, 46, 120], [98, 46, 121, 46, 120]] [[120], [119, 46, 120], [98, 46, 121, 46, 120]] (by simp) (by simp); rw [t2] at fT2
  clear n1 c1 c2 s1 p1 p2 d1 n2 d2 v1 v2 t1 t2
  refine fn_of_vc tyOk mixed Tryd.func7 (by kernel_rfl) rfl (Nat.le_of_ble_eq_true rfl) ?_; conv => whnf
  (refine ⟨_, _, example_fn, ?_⟩; conv => whnf)
  (refine ⟨_, _, fN, ?_⟩; conv => whnf)
  (refine ⟨_, _, fC1, ?_⟩; conv => whnf)
  (refine ⟨_, _, fC2, ?_⟩; conv => whnf)
  (refine ⟨_, _, fS, ?_⟩; conv => whnf)
  (refine ⟨(by kernel_rfl : planOk _ _ = true), ?_⟩; conv => whnf)
  (refine ⟨_, _, lset_fn _ _ _ _ _, ?_⟩; conv => whnf)
  (refine ⟨_, _, fP1, ?_⟩; conv => whnf)
  (refine ⟨(by kernel_rfl : planOk _ _ = true), ?_⟩; conv => whnf)
  (refine ⟨_, _, lset_fn _ _ _ _ _, ?_⟩; conv => whnf)
  (refine ⟨_, _, fP2, ?_⟩; conv => whnf)
  (refine ⟨_, _, fD1, ?_⟩; conv => whnf)
  (refine ⟨_, _, fN2, ?_⟩; conv => whnf)
  (refine ⟨_, _, fD2, ?_⟩; conv => whnf)
  refine ⟨_, fT1, rfl, ?_⟩; conv => whnf
  refine ⟨_, fT2, rfl, ?_⟩; conv => whnf
  (refine ⟨_, _, fV1, ?_⟩; conv => whnf)
  (refine ⟨_, _, fV2, ?_⟩; conv => whnf)
  exact ret_data rfl rfl
end Go.Proofs.YtpbidmocchbbiaaDoor

/-
  The law ZoneCuts: the walk.
-/
set_option linter.unusedSimpArgs false
set_option linter.unusedVariables false
set_option maxRecDepth 100000
namespace NP
open NQ Go
theorem labs_le {s : Bs} (h : validN s = true) : (labs s).length ≤ 8 := by
  have := valid_okL h
  simp [okL] at this
  exact this.1
theorem cutGo_len {z : Zone} : ∀ {f : Nat} {n c : Bs}, validN n = true → underN n z.apex = true → f = (labs n).length + 1 → cutGo z f n = some c → (labs c).length ≤ (labs n).length
  | 0, n, c, _, _, _, h => by simp [cutGo] at h
  | f + 1, n, c, hv, hu, hf, h => by
    unfold cutGo at h
    split at h
    · cases h
    · rename_i hne
      split at h
      · cases h; exact Nat.le_refl _
      · obtain ⟨_, k2, k3⟩ := under_up hv hu hne
        have := cutGo_len (parent_valid hv) k2 (by omega) h
        omega
theorem cutR_ok {z : Zone} {s c : Bs} {is : Bool} {e : Int} (h : cutR z s = (c, is, e)) : (e ≠ 0 ∧ c = [] ∧ is = false) ∨ (e = 0 ∧ validN s = true ∧ validZ z = true ∧ underN s z.apex = true ∧ ((is = true ∧ cutZ z s = some c) ∨ (is = false ∧ c = [] ∧ cutZ z s = none))) := by
  unfold cutR at h
  split at h
  · cases h; exact .inl ⟨by decide, rfl, rfl⟩
  · rename_i h0
    split at h
    · cases h; exact .inl ⟨by decide, rfl, rfl⟩
    · rename_i h1
      simp only [Bool.or_eq_true, Bool.not_eq_true', not_or, Bool.not_eq_false] at h0 h1
      have hap := (validZ_ordered h0.2).apex
      have hu : underN s z.apex = true := by
        unfold underR at h1; rw [if_pos ⟨h0.1, hap⟩] at h1; exact h1
      split at h
      · rename_i hc; cases h; exact .inr ⟨rfl, h0.1, h0.2, hu, .inl ⟨rfl, hc⟩⟩
      · rename_i hc; cases h; exact .inr ⟨rfl, h0.1, h0.2, hu, .inr ⟨rfl, rfl, hc⟩⟩
theorem findR_ok {z : Zone} {q : Quest} (hq : questB q = true) (hv : validZ z = true) : ∃ sg, findR z q = (sg, hasS z.sets q, 0) := by
  unfold findR
  rw [if_neg (by simp [hq, hv])]
  by_cases hh : hasS z.sets q = true
  · rw [if_neg (by simp [hh]), hh]; exact ⟨_, rfl⟩
  · rw [if_pos (by simpa using hh)]
    exact ⟨_, by rw [show hasS z.sets q = false by simpa using hh]⟩
theorem valid_ne_nil {s : Bs} (h : validN s = true) : s ≠ [] := by rintro rfl; revert h; decide
end NP
namespace Go.Proofs.YtpbidmocchbbiaaDoor
open NQ Go NP Go.RowKit

theorem zoneCuts_fn (z : Zone) (s : Bs) : NQ.Fn cx 6 [.agg (zoneD z), .str s] (.d (.bool true)) [] := by
  refine fn_of_vc tyOk mixed Tryd.func6 (by kernel_rfl) rfl (Nat.le_of_ble_eq_true rfl) ?_; conv => whnf
  (refine ⟨_, _, head_fn, ?_⟩; conv => whnf)
  (refine ⟨_, _, usable_fn z, ?_⟩; conv => whnf)
  (refine bcase_intro (fun h => ?_) (fun h => ?_) <;> (rw [h]; conv => whnf))
  · exact ret_data rfl rfl
  have hv : validZ z = true := by simp at h; exact h.2
  obtain ⟨⟨c, is, e⟩, hc⟩ : ∃ x, cutR z s = x := ⟨_, rfl⟩
  have fC := cut_fn z s
  rw [hc] at fC
  (refine ⟨_, _, fC, ?_⟩; conv => whnf)
  rcases cutR_ok hc with ⟨he, rfl, rfl⟩ | ⟨rfl, hvs, _, hus, hcut⟩
  · have : (e != 0) = true := by simpa using he
    rw [this]
    conv => whnf
    exact ret_data rfl rfl
  conv => whnf
  refine ⟨Nat × Bs, fun x => ⟨[(2, .ptr 2 0), (5, .d (.bool true)), (6, .d (.str c)), (7, .d (.bool is)), (9, .d (.str x.2)), (39, .d (.int .i64 x.1))], [(2, .box ((zoneD z).map .d))]⟩,
    fun x => validN x.2 = true ∧ underN x.2 z.apex = true ∧ cutGo z ((labs x.2).length + 1) x.2 = cutZ z s ∧ x.1 + (labs x.2).length = (labs s).length, fun x => 9 - x.1,
    ⟨(0, s), ⟨hvs, hus, rfl, by simp⟩, Weak.keep ⟨⟨rfl, rfl⟩, ⟨rfl, rfl⟩, ⟨rfl, rfl⟩, ⟨rfl, rfl⟩, ⟨rfl, rfl⟩, ⟨rfl, rfl⟩, trivial⟩ ⟨⟨rfl, rfl⟩, trivial⟩⟩, ?_⟩
  rintro ⟨j, n⟩ ⟨hvn, hun, hgo, hj⟩
  simp only at hvn hun hgo hj
  have hl8 := labs_le hvs
  conv => whnf
  have hj9 : decide ((j : Int) < 9) = true := by simp; omega
  rw [hj9]
  conv => whnf
  have hnn := valid_ne_nil hvn
  refine bcase_intro (fun h1 => ?_) (fun h1 => ?_) <;> (rw [h1]; conv => whnf)
  · have hne : n = z.apex := by simpa using h1
    rw [cutGo, if_pos hne] at hgo
    rcases hcut with ⟨rfl, hh⟩ | ⟨rfl, rfl, hh⟩
    · rw [hh] at hgo; cases hgo
    · conv => whnf
      exact ret_data rfl rfl
  have hne : n ≠ z.apex := by simpa using h1
  obtain ⟨k1, k2, k3⟩ := under_up hvn hun hne
  rw [cutGo, if_neg hne] at hgo
  obtain ⟨sg, hsg⟩ := findR_ok (z := z) (q := ⟨n, 2⟩) (by simp [questB, hvn]) hv
  have fF := zfind_fn z ⟨n, 2⟩
  rw [hsg] at fF
  (refine ⟨_, _, fF, ?_⟩; conv => whnf)
  have hp : parentR n = (parentN n, 0) := by unfold parentR; rw [if_pos hvn, if_neg k1]
  have hpf := Parent_fn n
  rw [hp] at hpf
  rw [← k3] at hgo
  have hlen : ∀ c', cutGo z ((labs (parentN n)).length + 1) (parentN n) = some c' → (n == c') = false := fun c' hh => by
    have := cutGo_len (parent_valid hvn) k2 rfl hh
    simp; rintro rfl; omega
  have hn0 : (n == ([] : Bs)) = false := by simpa using hnn
  obtain ⟨hs, hhs⟩ : ∃ b, hasS z.sets ⟨n, 2⟩ = b := ⟨_, rfl⟩
  rw [hhs] at hgo ⊢
  have hstep : cutGo z ((labs (parentN n)).length + 1) (parentN n) = cutZ z s → ∃ y : Nat × Bs, (validN y.2 = true ∧ underN y.2 z.apex = true ∧ cutGo z ((labs y.2).length + 1) y.2 = cutZ z s ∧ y.1 + (labs y.2).length = (labs s).length) ∧ 9 - y.1 < 9 - j ∧ y = (j + 1, parentN n) := fun hh =>
    ⟨(j + 1, parentN n), ⟨parent_valid hvn, k2, hh, by (show j + 1 + (labs (parentN n)).length = _; omega)⟩, by (show 9 - (j + 1) < 9 - j; omega), rfl⟩
  rcases hcut with ⟨rfl, hh⟩ | ⟨rfl, rfl, hh⟩
  · rw [hh] at hgo
    cases hs with
    | true =>
      simp at hgo; subst hgo
      conv => whnf
      repeat' (first
        | (refine ⟨(by kernel_rfl : planOk _ _ = true), ?_⟩; conv => whnf)
        | (refine bcase_intro (fun h => ?_) (fun h => ?_) <;> (rw [h]; conv => whnf))
        | exact ret_data rfl rfl
        | exact absurd h (by simp)
        | fail)
    | false =>
      simp at hgo
      have hnc := hlen _ hgo
      obtain ⟨y, y1, y2, rfl⟩ := hstep (hgo.trans hh.symm)
      conv => whnf
      repeat' (first
        | (refine ⟨(by kernel_rfl : planOk _ _ = true), ?_⟩; conv => whnf)
        | (rw [hnc]; conv => whnf)
        | (refine ⟨_, _, hpf, ?_⟩; conv => whnf)
        | exact ⟨(j + 1, parentN n), y1, y2, Weak.keep ⟨⟨rfl, rfl⟩, ⟨rfl, rfl⟩, ⟨rfl, rfl⟩, ⟨rfl, rfl⟩, ⟨rfl, rfl⟩, ⟨wrap_succ (by omega), rfl⟩, trivial⟩ ⟨⟨rfl, rfl⟩, trivial⟩⟩
        | exact ret_data rfl rfl
        | fail)
  · rw [hh] at hgo
    cases hs with
    | true => simp at hgo
    | false =>
      simp at hgo
      obtain ⟨y, y1, y2, rfl⟩ := hstep (hgo.trans hh.symm)
      conv => whnf
      repeat' (first
        | (refine ⟨(by kernel_rfl : planOk _ _ = true), ?_⟩; conv => whnf)
        | (rw [hn0]; conv => whnf)
        | (refine ⟨_, _, hpf, ?_⟩; conv => whnf)
        | exact ⟨(j + 1, parentN n), y1, y2, Weak.keep ⟨⟨rfl, rfl⟩, ⟨rfl, rfl⟩, ⟨rfl, rfl⟩, ⟨rfl, rfl⟩, ⟨rfl, rfl⟩, ⟨wrap_succ (by omega), rfl⟩, trivial⟩ ⟨⟨rfl, rfl⟩, trivial⟩⟩
        | exact ret_data rfl rfl
        | fail)
end Go.Proofs.YtpbidmocchbbiaaDoor
