/-
  Texts of the proof of the law ZoneUnsigned, merged in build order.
-/
import Derived.Test.YtpbidmocchbbiaaDoorMVa
import Derived.Test.YtpbidmocchbbiaaDoorDbM
import Derived.Test.YtpbidmocchbbiaaDoorDdM
import Derived.Test.YtpbidmocchbbiaaDoorMQr
/-
  Contracts of slices.Clone, zone.clone, zone.cloneZone, zone.Find on plain data.
-/
set_option linter.unusedSimpArgs false
set_option linter.unusedVariables false
set_option maxRecDepth 100000
namespace NP
open NQ Go
def zeroSg : Signed := ⟨⟨[], 0, 0, []⟩, []⟩
def Small (s : Signed) : Prop := s.set.data.length ≤ 100000 ∧ s.sigs.length ≤ 100000
theorem set_row {α : Type} {l : List α} {k n : Nat} {x z : α} (hk : l[k]? = some x) (hn : l.length = n) : (l.take k ++ List.replicate (n - k) z).set k x = l.take (k + 1) ++ List.replicate (n - (k + 1)) z := by
  have hlt : k < l.length := (List.getElem?_eq_some_iff.1 hk).1
  have h1 : (l.take k).length = k := by simp; omega
  rw [List.set_append_right _ _ (by omega), h1, Nat.sub_self, show n - k = (n - (k + 1)) + 1 by omega, List.replicate_succ, List.set_cons_zero, take_snoc hk, List.append_assoc]
  rfl
def findR (z : Zone) (q : Quest) : Signed × Bool × Int :=
  if (!questB q || !validZ z) = true then (zeroSg, false, 1) else if (!hasS z.sets q) = true then (zeroSg, false, 0) else ((z.sets[posOf z.sets q]?).getD zeroSg, true, 0)
theorem inForm_small {l : List Sig} {a : Bs} (h : inForm l a = true) : l.length ≤ 6 := by
  simp [inForm] at h; omega
theorem setB_small {s : RSet} (h : setB s = true) : s.data.length ≤ 8 := by
  unfold setB at h; simp only [Bool.and_eq_true, Bool.not_eq_true', Bool.or_eq_false_iff, Bool.not_eq_false'] at h; have := h.1.1.2; simp [within] at this; omega
theorem valid_small {z : Zone} (h : validZ z = true) : ∀ s ∈ z.sets, Small s := fun s hs => by
  have ho := validZ_ordered h
  refine ⟨by have := setB_small (ho.set s hs); omega, ?_⟩
  simp only [validZ, Bool.and_eq_true] at h
  have hf := h.2.2
  simp only [formB, List.all_eq_true] at hf
  obtain ⟨i, hi, rfl⟩ := List.getElem_of_mem hs
  have := hf i (List.mem_range.2 hi)
  simp only [frmAt, List.getElem?_eq_getElem hi] at this
  have := inForm_small this
  omega
end NP
namespace Go.Proofs.YtpbidmocchbbiaaDoor
open NQ Go NP Go.RowKit

theorem cloneData_fn (rows : List (List D)) (hl : rows.length ≤ 100000) : NQ.Fn cx 61 [.slice 3 rows] (.d (.slice 3 rows)) [] := by
  refine fn_of_vc tyOk mixed Tryd.func61 (by kernel_rfl) rfl (Nat.le_of_ble_eq_true rfl) ?_; conv => whnf
  refine ⟨fun h => ?_, ?_⟩
  · refine ret_data rfl ?_
    rw [List.isEmpty_iff.1 h]; rfl
  · conv => whnf
    refine ⟨by (show 0 + rows.length ≤ _; omega), by (show (0 + rows.length) * 32 ≤ _; omega), ?_⟩
    conv => whnf
    exact ret_data rfl rfl
theorem cloneSigs_fn (rows : List (List D)) (hl : rows.length ≤ 100000) : NQ.Fn cx 62 [.slice 6 rows] (.d (.slice 6 rows)) [] := by
  refine fn_of_vc tyOk mixed Tryd.func62 (by kernel_rfl) rfl (Nat.le_of_ble_eq_true rfl) ?_; conv => whnf
  refine ⟨fun h => ?_, ?_⟩
  · refine ret_data rfl ?_
    rw [List.isEmpty_iff.1 h]; rfl
  · conv => whnf
    refine ⟨by (show 0 + rows.length ≤ _; omega), by (show (0 + rows.length) * 56 ≤ _; omega), ?_⟩
    conv => whnf
    exact ret_data rfl rfl
theorem clone_fn (s : Signed) (h1 : s.set.data.length ≤ 100000) (h2 : s.sigs.length ≤ 100000) : NQ.Fn cx 39 [.agg (signedD s)] (.agg ((signedD s).map .d)) [] := by
  refine fn_of_vc tyOk mixed Tryd.func39 (by kernel_rfl) rfl (Nat.le_of_ble_eq_true rfl) ?_; conv => whnf
  (refine ⟨_, _, cloneData_fn _ (by simpa using h1), ?_⟩; conv => whnf)
  (refine ⟨_, _, cloneSigs_fn _ (by simpa using h2), ?_⟩; conv => whnf)
  exact ret_data rfl rfl

theorem cloneZone_fn (z : Zone) (hn : z.sets.length ≤ 100000) (hs : ∀ s ∈ z.sets, Small s) :
    NQ.Fn cx 44 [.agg (zoneD z)] (.agg [.d (.str z.apex), .own 9]) [(9, .row 41 5 (z.sets.map signedD) true)] := by
  refine fn_of_vc tyOk mixed Tryd.func44 (by kernel_rfl) rfl (Nat.le_of_ble_eq_true rfl) ?_; conv => whnf
  refine ⟨by omega, .inl rfl, by omega, by (simp only [List.length_map]; omega), by (simp only [List.length_map]; omega), ?_⟩
  conv => whnf
  refine ⟨Nat, fun k => ⟨[(1, .ptr 1 0), (2, .ptr 2 0), (3, .own 9), (11, .d (.slice 5 (z.sets.map signedD))), (12, .d (.int .i64 ((z.sets.map signedD).length : Int))), (13, .d (.int .i64 k))],
      [(1, .box ((zoneD z).map .d)), (2, .box [.d (.str []), .nil 5]), (9, .row 41 5 ((z.sets.take k ++ List.replicate (z.sets.length - k) zeroSg).map signedD) true)]⟩,
    fun k => k ≤ z.sets.length, fun k => z.sets.length - k, ⟨0, by omega, Weak.keep ⟨⟨rfl, rfl⟩, ⟨rfl, rfl⟩, ⟨rfl, rfl⟩, ⟨rfl, rfl⟩, ⟨rfl, rfl⟩, ⟨rfl, rfl⟩, trivial⟩ ⟨⟨rfl, rfl⟩, ⟨rfl, rfl⟩, ⟨by (show some (Blk.row _ _ (List.replicate ((z.sets.map signedD).length : Int).toNat _) true) = some (Blk.row _ _ _ true); simp [signedD, zeroSg]; done), rfl⟩, trivial⟩⟩, fun k hk => ?_⟩
  conv => whnf
  refine bcase_intro (fun h1 => ?_) (fun h1 => ?_) <;> (rw [h1]; conv => whnf)
  · have hlt : k < z.sets.length := by simp at h1; omega
    obtain ⟨s, hsk⟩ : ∃ s, z.sets[k]? = some s := ⟨_, List.getElem?_eq_getElem hlt⟩
    refine ⟨Int.natCast_nonneg k, signedD s, map_get hsk, ?_⟩
    conv => whnf
    have hsm := hs s (List.mem_of_getElem? hsk)
    (refine ⟨_, _, clone_fn s hsm.1 hsm.2, ?_⟩; conv => whnf)
    refine ⟨Int.natCast_nonneg k, by (simp; omega), ?_⟩
    conv => whnf
    have hrk : ((z.sets.take k ++ List.replicate (z.sets.length - k) zeroSg).map signedD)[k]? = some (signedD zeroSg) := by
      rw [List.getElem?_map, List.getElem?_append_right (by simp; omega), List.getElem?_replicate, if_pos (by simp; omega)]; rfl
    refine ⟨_, hrk, ?_⟩
    conv => whnf
    refine ⟨k + 1, hlt, by (show z.sets.length - (k + 1) < z.sets.length - k; omega), Weak.keep ⟨⟨rfl, rfl⟩, ⟨rfl, rfl⟩, ⟨rfl, rfl⟩, ⟨rfl, rfl⟩, ⟨rfl, rfl⟩, ⟨wrap_succ (by omega), rfl⟩, trivial⟩ ⟨⟨rfl, rfl⟩, ⟨rfl, rfl⟩, ⟨?_, rfl⟩, trivial⟩⟩
    show some (Blk.row _ _ (List.set _ k (signedD s)) true) = some (Blk.row _ _ _ true)
    rw [← List.map_set, set_row hsk rfl]
  · obtain rfl : k = z.sets.length := by simp at h1; omega
    refine ret_keep rfl rfl ⟨⟨?_, rfl⟩, trivial⟩
    show some (Blk.row _ _ _ true) = some (Blk.row _ _ _ true)
    rw [List.take_length, Nat.sub_self, List.replicate_zero, List.append_nil]
theorem zfind_fn (z : Zone) (q : Quest) : NQ.Fn cx 17 [.agg (zoneD z), .agg (questD q)] (.tuple [.agg ((signedD (findR z q).1).map .d), .d (.bool (findR z q).2.1), .d (.int .i64 (findR z q).2.2)]) [] := by
  refine fn_of_vc tyOk mixed Tryd.func17 (by kernel_rfl) rfl (Nat.le_of_ble_eq_true rfl) ?_; conv => whnf
  (refine ⟨_, _, questB_fn q, ?_⟩; conv => whnf)
  have bad : (!questB q || !validZ z) = true → findR z q = (zeroSg, false, 1) := fun h => by rw [findR, if_pos h]
  (refine bcase_intro (fun h => ?_) (fun h => ?_) <;> (rw [h]; conv => whnf))
  · refine ret_data rfl ?_; rw [bad (by simp [h])]; rfl
  have hq0 := h
  (refine ⟨_, _, zvalid_fn z, ?_⟩; conv => whnf)
  (refine bcase_intro (fun h => ?_) (fun h => ?_) <;> (rw [h]; conv => whnf))
  · refine ret_data rfl ?_; rw [bad (by simp [h])]; rfl
  have hq : questB q = true := by simpa using hq0
  have hv : validZ z = true := by simpa using h
  have hqn : validN q.name = true := by simp [questB] at hq; exact hq.1.1
  have ho := validZ_ordered hv
  (refine ⟨_, _, find_ok ho q hqn, ?_⟩; conv => whnf)
  (refine bcase_intro (fun h => ?_) (fun h => ?_) <;> (rw [h]; conv => whnf))
  · refine ret_data rfl ?_; rw [findR, if_neg (by simp [hq, hv]), if_pos (by assumption)]; rfl
  have hh := h
  obtain ⟨s, hs, hm, _⟩ := found_ok ho hqn (by simpa using hh)
  refine ⟨Int.natCast_nonneg _, signedD s, map_get hs, ?_⟩
  conv => whnf
  have hsm := valid_small hv s hm
  (refine ⟨_, _, clone_fn s hsm.1 hsm.2, ?_⟩; conv => whnf)
  refine ret_data rfl ?_
  rw [findR, if_neg (by simp [hq, hv]), if_neg (by simpa using hh), hs]; rfl
end Go.Proofs.YtpbidmocchbbiaaDoor

/-
  Contracts of zone.Put and zone.Drop on plain data.
-/
set_option linter.unusedSimpArgs false
set_option linter.unusedVariables false
set_option maxRecDepth 100000
namespace NP
open NQ Go
def zeroZn : Zone := ⟨[], []⟩
def qOf (s : Signed) : Quest := ⟨s.set.name, s.set.type⟩
def insAt (l : List Signed) (i : Nat) (s : Signed) : List Signed := l.take i ++ [s] ++ l.drop i
/-- The sets with one put in. -/
def putL (l : List Signed) (s : Signed) : List Signed := if hasS l (qOf s) = true then l.set (posOf l (qOf s)) s else insAt l (posOf l (qOf s)) s
def putZ (z : Zone) (s : Signed) : Zone := ⟨z.apex, putL z.sets s⟩
def putR (z : Zone) (s : Signed) : Zone × Int :=
  if (!setB s.set || !validZ z) = true then (zeroZn, 1)
  else if (!inForm s.sigs z.apex) = true then (zeroZn, 30)
  else if (!(underR s.set.name z.apex).1) = true then (zeroZn, 20)
  else if (!fits s.set.type (s.set.name == z.apex)) = true then (zeroZn, 22)
  else if (!hasS z.sets (qOf s) && decide ((z.sets.length : Int) ≥ 20000)) = true then (zeroZn, 2)
  else if (!aliases (putZ z s)) = true then (zeroZn, 21)
  else if (!cutsB (putZ z s) (behindOf (putZ z s))) = true then (zeroZn, 20)
  else if (!sigsB (putZ z s) (behindOf (putZ z s))) = true then (zeroZn, 30)
  else (putZ z s, 0)
def dropL (l : List Signed) (q : Quest) : List Signed := l.take (posOf l q) ++ l.drop (posOf l q + 1)
def dropZ (z : Zone) (q : Quest) : Zone := ⟨z.apex, dropL z.sets q⟩
def dropR (z : Zone) (q : Quest) : Zone × Int :=
  if (!questB q || !validZ z) = true then (zeroZn, 1)
  else if (!hasS z.sets q) = true then (zeroZn, 4)
  else if ((q.name == z.apex) && ((q.type == 4) || (q.type == 2))) = true then (zeroZn, 22)
  else if (!cutsB (dropZ z q) (behindOf (dropZ z q))) = true then (zeroZn, 20)
  else (dropZ z q, 0)
end NP
namespace Go.Proofs.YtpbidmocchbbiaaDoor
open NQ Go NP Go.RowKit

theorem drop_fn (z : Zone) (q : Quest) : NQ.Fn cx 21 [.agg (zoneD z), .agg (questD q)] (.tuple [.agg ((zoneD (dropR z q).1).map .d), .d (.int .i64 (dropR z q).2)]) [] := by
  refine fn_of_vcz (fun | 10 => [9] | _ => []) tyOk mixed Tryd.func21 (by kernel_rfl) rfl (Nat.le_of_ble_eq_true rfl) ?_
  conv => whnf
  (refine ⟨_, _, questB_fn q, ?_⟩; conv => whnf)
  have bad : (!questB q || !validZ z) = true → dropR z q = (zeroZn, 1) := fun h => by rw [dropR, if_pos h]
  (refine bcase_intro (fun h => ?_) (fun h => ?_) <;> (rw [h]; conv => whnf))
  · refine ret_data rfl ?_; rw [bad (by simp [h])]; rfl
  have hq0 := h
  (refine ⟨_, _, zvalid_fn z, ?_⟩; conv => whnf)
  (refine bcase_intro (fun h => ?_) (fun h => ?_) <;> (rw [h]; conv => whnf))
  · refine ret_data rfl ?_; rw [bad (by simp [h])]; rfl
  have hq : questB q = true := by simpa using hq0
  have hv : validZ z = true := by simpa using h
  have hqn : validN q.name = true := by simp [questB] at hq; exact hq.1.1
  have ho := validZ_ordered hv
  (refine ⟨_, _, find_ok ho q hqn, ?_⟩; conv => whnf)
  (refine bcase_intro (fun h => ?_) (fun h => ?_) <;> (rw [h]; conv => whnf))
  · refine ret_data rfl ?_; rw [dropR, if_neg (by simp [hq, hv]), if_pos (by assumption)]; rfl
  have hh : hasS z.sets q = true := by simpa using h
  obtain ⟨s, hs, hm, _⟩ := found_ok ho hqn hh
  have hlt : posOf z.sets q < z.sets.length := (List.getElem?_eq_some_iff.1 hs).1
  have hfew := ho.few
  have hap : ((q.name == z.apex) && ((q.type == 4) || (q.type == 2))) = true → dropR z q = (zeroZn, 22) := fun h => by rw [dropR, if_neg (by simp [hq, hv]), if_neg (by simp [hh]), if_pos h]
  have cont : ((q.name == z.apex) && ((q.type == 4) || (q.type == 2))) = false → dropR z q = if (!cutsB (dropZ z q) (behindOf (dropZ z q))) = true then (zeroZn, 20) else (dropZ z q, 0) := fun h => by rw [dropR, if_neg (by simp [hq, hv]), if_neg (by simp [hh]), if_neg (by simp [h])]
  have hdel : FnR cx 46 true 41 5 (z.sets.map signedD) true [.int .i64 (posOf z.sets q : Nat), .int .i64 (IntKind.i64.wrap ((posOf z.sets q : Nat) + 1))] ((dropZ z q).sets.map signedD) := by
    have := delete_fnr (z.sets.map signedD) true (posOf z.sets q) (posOf z.sets q + 1) (by omega) (by simp; omega)
    rw [← List.map_take, ← List.map_drop, ← List.map_append] at this
    rw [wrap_add (by omega)]
    exact this
  have hdl : (dropZ z q).sets.length ≤ 100000 := by simp [dropZ, dropL]; omega
  have hbl : (behindOf (dropZ z q)).length = (dropZ z q).sets.length := bh_length _ _ _
  repeat' (first
    | (refine ⟨(by kernel_rfl : planOk _ _ = true), ?_⟩; conv => whnf)
    | (refine bcase_intro (fun h => ?_) (fun h => ?_) <;> (rw [h]; conv => whnf))
    | (refine ⟨_, _, cloneZone_fn z (by omega) (valid_small hv), ?_⟩; conv => whnf)
    | (refine ⟨_, hdel, ?_⟩; conv => whnf)
    | (refine ⟨_, _, lay_fn (dropZ z q) hdl, ?_⟩; conv => whnf)
    | (refine ⟨_, _, cutsHold_fn (dropZ z q) _ hdl hbl, ?_⟩; conv => whnf)
    | (refine ret_data rfl ?_; rw [hap (by (simp only [*, if_true, if_false, Bool.false_eq_true, Bool.not_true, Bool.not_false, Bool.not_not, Bool.true_or, Bool.or_true, Bool.false_or, Bool.or_false, Bool.and_true, Bool.true_and, Bool.false_and, Bool.and_false]; done))]; rfl)
    | (refine ret_data rfl ?_; rw [cont (by (simp only [*, if_true, if_false, Bool.false_eq_true, Bool.not_true, Bool.not_false, Bool.not_not, Bool.true_or, Bool.or_true, Bool.false_or, Bool.or_false, Bool.and_true, Bool.true_and, Bool.false_and, Bool.and_false]; done)), if_pos (by assumption)]; rfl)
    | (refine ret_data rfl ?_; rw [cont (by (simp only [*, if_true, if_false, Bool.false_eq_true, Bool.not_true, Bool.not_false, Bool.not_not, Bool.true_or, Bool.or_true, Bool.false_or, Bool.or_false, Bool.and_true, Bool.true_and, Bool.false_and, Bool.and_false]; done)), if_neg (by (simp only [*, if_true, if_false, Bool.false_eq_true, Bool.not_true, Bool.not_false, Bool.not_not, Bool.true_or, Bool.or_true, Bool.false_or, Bool.or_false, Bool.and_true, Bool.true_and, Bool.false_and, Bool.and_false, not_false_eq_true]; done))]; rfl)
    | fail)

set_option maxHeartbeats 4000000 in
theorem put_fn (z : Zone) (s : Signed) : NQ.Fn cx 20 [.agg (zoneD z), .agg (signedD s)] (.tuple [.agg ((zoneD (putR z s).1).map .d), .d (.int .i64 (putR z s).2)]) [] := by
  refine fn_of_vcz (fun | 18 => [9] | 23 => [99999] | _ => []) tyOk mixed Tryd.func20 (by kernel_rfl) rfl (Nat.le_of_ble_eq_true rfl) ?_
  conv => whnf
  (refine ⟨_, _, recValid_fn s.set, ?_⟩; conv => whnf)
  have bad : (!setB s.set || !validZ z) = true → putR z s = (zeroZn, 1) := fun h => by rw [putR, if_pos h]
  (refine bcase_intro (fun h => ?_) (fun h => ?_) <;> (rw [h]; conv => whnf))
  · refine ret_data rfl ?_; rw [bad (by simp [h])]; rfl
  have hq0 := h
  (refine ⟨_, _, zvalid_fn z, ?_⟩; conv => whnf)
  (refine bcase_intro (fun h => ?_) (fun h => ?_) <;> (rw [h]; conv => whnf))
  · refine ret_data rfl ?_; rw [bad (by simp [h])]; rfl
  have hset : setB s.set = true := by simpa using hq0
  have hv : validZ z = true := by simpa using h
  have hqn : validN s.set.name = true := setB_valid hset
  have ho := validZ_ordered hv
  have hfew := ho.few
  have c1 : ¬ (!setB s.set || !validZ z) = true := by simp [hset, hv]
  (refine ⟨_, _, inForm_fn s.sigs z.apex, ?_⟩; conv => whnf)
  (refine bcase_intro (fun h => ?_) (fun h => ?_) <;> (rw [h]; conv => whnf))
  · refine ret_data rfl ?_; rw [putR, if_neg c1, if_pos h]; rfl
  have hform : inForm s.sigs z.apex = true := by simpa using h
  have c2 : ¬ (!inForm s.sigs z.apex) = true := by simp [hform]
  (refine ⟨_, _, Under_fn s.set.name z.apex, ?_⟩; conv => whnf)
  (refine bcase_intro (fun h => ?_) (fun h => ?_) <;> (rw [h]; conv => whnf))
  · refine ret_data rfl ?_; rw [putR, if_neg c1, if_neg c2, if_pos h]; rfl
  have c3 : ¬ (!(underR s.set.name z.apex).1) = true := by rw [h]; simp
  (refine ⟨_, _, fitsApex_fn s.set.type (s.set.name == z.apex), ?_⟩; conv => whnf)
  (refine bcase_intro (fun h => ?_) (fun h => ?_) <;> (rw [h]; conv => whnf))
  · refine ret_data rfl ?_; rw [putR, if_neg c1, if_neg c2, if_neg c3, if_pos h]; rfl
  have c4 : ¬ (!fits s.set.type (s.set.name == z.apex)) = true := by rw [h]; simp
  (refine ⟨_, _, find_ok ho (qOf s) hqn, ?_⟩; conv => whnf)
  have h4 : (!hasS z.sets (qOf s) && decide ((z.sets.length : Int) ≥ 20000)) = true → putR z s = (zeroZn, 2) := fun h => by rw [putR, if_neg c1, if_neg c2, if_neg c3, if_neg c4, if_pos h]
  have cont : (!hasS z.sets (qOf s) && decide ((z.sets.length : Int) ≥ 20000)) = false → putR z s = if (!aliases (putZ z s)) = true then (zeroZn, 21) else if (!cutsB (putZ z s) (behindOf (putZ z s))) = true then (zeroZn, 20)
    else if (!sigsB (putZ z s) (behindOf (putZ z s))) = true then (zeroZn, 30) else (putZ z s, 0) := fun h => by rw [putR, if_neg c1, if_neg c2, if_neg c3, if_neg c4, if_neg (by simp [h])]
  obtain ⟨hsp, hfd⟩ := split_of (qOf s) hqn z.sets ho.rising ho.name
  have hpos : posOf z.sets (qOf s) ≤ z.sets.length := hsp.1
  have hsm : Small s := ⟨by have := setB_small hset; omega, by have := inForm_small hform; omega⟩
  have hpl : (putZ z s).sets.length ≤ 100000 := by
    simp only [putZ, putL]; split <;> simp [insAt] <;> omega
  have hbl : (behindOf (putZ z s)).length = (putZ z s).sets.length := bh_length _ _ _
  obtain ⟨fd, hfd0⟩ : ∃ fd, hasS z.sets (qOf s) = fd := ⟨_, rfl⟩
  rw [hfd0] at h4 cont ⊢
  have hset : (putZ z s).sets = putL z.sets s := rfl
  cases fd with
  | false =>
    have hput : putL z.sets s = insAt z.sets (posOf z.sets (qOf s)) s := by rw [putL, if_neg (by simp [hfd0])]
    conv => whnf
    (refine bcase_intro (fun h => ?_) (fun h => ?_) <;> (rw [h]; conv => whnf))
    · refine ret_data rfl ?_; rw [h4 (by (simp only [List.length_map] at h; simp [h]))]; rfl
    have c5 : (!false && decide ((z.sets.length : Int) ≥ 20000)) = false := by simp only [List.length_map] at h; simp [h]
    have cont := cont c5
    (refine ⟨_, _, cloneZone_fn z (by omega) (valid_small hv), ?_⟩; conv => whnf)
    (refine ⟨(by kernel_rfl : planOk _ _ = true), ?_⟩; conv => whnf)
    (refine ⟨_, _, clone_fn s hsm.1 hsm.2, ?_⟩; conv => whnf)
    have hins : FnR cx 45 true 41 5 (z.sets.map signedD) true [.int .i64 (posOf z.sets (qOf s) : Nat), .slice 5 [signedD s]] ((putZ z s).sets.map signedD) := by
      have := insert_fnr (z.sets.map signedD) (posOf z.sets (qOf s)) (signedD s) (by simpa using hpos) (by simp; omega)
      rw [hset, hput, insAt, List.map_append, List.map_append, List.map_take, List.map_drop]
      exact this
    refine ⟨_, hins, ?_⟩
    conv => whnf
    (refine ⟨_, _, lay_fn (putZ z s) hpl, ?_⟩; conv => whnf)
    (refine ⟨Nat, fun k => ⟨[(4, .ptr 4 0), (10, .ptr 10 0), (12, .ptr 12 0), (105, .own 102), (106, .d (.int .i64 3)), (107, .d (.int .i64 k))], [(4, .box [.d (.str []), .nil 5]), (10, .box ((zoneD (putZ z s)).map .d)), (12, .box ((layD (putZ z s) (behindOf (putZ z s))).map .d)), (102, .row 86 2 [[.fn 34 [] [], .int .i64 21], [.fn 35 [] [], .int .i64 20], [.fn 36 [] [], .int .i64 30]])]⟩,
      fun k => k ≤ 3 ∧ (1 ≤ k → aliases (putZ z s) = true) ∧ (2 ≤ k → cutsB (putZ z s) (behindOf (putZ z s)) = true) ∧ (3 ≤ k → sigsB (putZ z s) (behindOf (putZ z s)) = true), fun k => 3 - k,
      ⟨0, ⟨by omega, fun h => by omega, fun h => by omega, fun h => by omega⟩, Weak.keep ⟨⟨rfl, rfl⟩, ⟨rfl, rfl⟩, ⟨rfl, rfl⟩, ⟨rfl, rfl⟩, ⟨rfl, rfl⟩, ⟨rfl, rfl⟩, trivial⟩ ⟨⟨rfl, rfl⟩, ⟨rfl, rfl⟩, ⟨rfl, rfl⟩, ⟨rfl, rfl⟩, trivial⟩⟩, ?_⟩
     rintro k ⟨hk, a1, a2, a3⟩
     rcases k with _ | _ | _ | _ | k
     all_goals conv => whnf)
    all_goals repeat' (first
      | (exact absurd hk (by omega))
      | (refine ⟨by decide, by decide, ?_⟩; conv => whnf)
      | (refine ⟨_, rfl, ?_⟩; conv => whnf)
      | (refine ⟨_, _, aliasesHold_fn (putZ z s) _ hpl, ?_⟩; conv => whnf)
      | (refine ⟨_, _, cutsHold_fn (putZ z s) _ hpl hbl, ?_⟩; conv => whnf)
      | (refine ⟨_, _, sigsHold_fn (putZ z s) _ hpl hbl, ?_⟩; conv => whnf)
      | (refine ⟨(by kernel_rfl : planOk _ _ = true), ?_⟩; conv => whnf)
      | (refine bcase_intro (fun h => ?_) (fun h => ?_) <;> (rw [h]; conv => whnf))
      | (refine ⟨0 + 1, ⟨by omega, fun _ => by simpa using h, fun h => by omega, fun h => by omega⟩, by decide, Weak.keep ⟨⟨rfl, rfl⟩, ⟨rfl, rfl⟩, ⟨rfl, rfl⟩, ⟨rfl, rfl⟩, ⟨rfl, rfl⟩, ⟨rfl, rfl⟩, trivial⟩ ⟨⟨rfl, rfl⟩, ⟨rfl, rfl⟩, ⟨rfl, rfl⟩, ⟨rfl, rfl⟩, trivial⟩⟩; done)
      | (refine ⟨0 + 1 + 1, ⟨by omega, fun _ => a1 (by omega), fun _ => by simpa using h, fun h => by omega⟩, by decide, Weak.keep ⟨⟨rfl, rfl⟩, ⟨rfl, rfl⟩, ⟨rfl, rfl⟩, ⟨rfl, rfl⟩, ⟨rfl, rfl⟩, ⟨rfl, rfl⟩, trivial⟩ ⟨⟨rfl, rfl⟩, ⟨rfl, rfl⟩, ⟨rfl, rfl⟩, ⟨rfl, rfl⟩, trivial⟩⟩; done)
      | (refine ⟨0 + 1 + 1 + 1, ⟨by omega, fun _ => a1 (by omega), fun _ => a2 (by omega), fun _ => by simpa using h⟩, by decide, Weak.keep ⟨⟨rfl, rfl⟩, ⟨rfl, rfl⟩, ⟨rfl, rfl⟩, ⟨rfl, rfl⟩, ⟨rfl, rfl⟩, ⟨rfl, rfl⟩, trivial⟩ ⟨⟨rfl, rfl⟩, ⟨rfl, rfl⟩, ⟨rfl, rfl⟩, ⟨rfl, rfl⟩, trivial⟩⟩; done)
      | (refine ret_data rfl ?_; rw [cont, if_neg (by simp [a1 (by omega)]), if_neg (by simp [a2 (by omega)]), if_neg (by simp [a3 (by omega)])]; rfl)
      | (refine ret_data rfl ?_; rw [cont, if_neg (by simp [a1 (by omega)]), if_neg (by simp [a2 (by omega)]), if_pos (by assumption)]; rfl)
      | (refine ret_data rfl ?_; rw [cont, if_neg (by simp [a1 (by omega)]), if_pos (by assumption)]; rfl)
      | (refine ret_data rfl ?_; rw [cont, if_pos (by assumption)]; rfl)
      | (refine And.intro ?_ ?_ <;> (conv => whnf))
      | fail)
  | true =>
    have hput : putL z.sets s = z.sets.set (posOf z.sets (qOf s)) s := by rw [putL, if_pos hfd0]
    have cont := cont (by simp)
    obtain ⟨s0, hs0, _, _⟩ := found_ok ho hqn hfd0
    conv => whnf
    (refine ⟨_, _, cloneZone_fn z (by omega) (valid_small hv), ?_⟩; conv => whnf)
    (refine ⟨(by kernel_rfl : planOk _ _ = true), ?_⟩; conv => whnf)
    (refine ⟨_, _, clone_fn s hsm.1 hsm.2, ?_⟩; conv => whnf)
    refine ⟨Int.natCast_nonneg _, by (have := (List.getElem?_eq_some_iff.1 hs0).1; simpa using this), ?_⟩
    conv => whnf
    refine ⟨_, map_get hs0, ?_⟩
    conv => whnf
    have hlay : NQ.Fn cx 24 [.agg [.str z.apex, .slice 5 ((z.sets.map signedD).set (posOf z.sets (qOf s)) (signedD s))]] (.agg ((layD (putZ z s) (behindOf (putZ z s))).map .d)) [] := by
      have := lay_fn (putZ z s) hpl
      rw [← List.map_set, ← hput]; exact this
    (refine ⟨_, _, hlay, ?_⟩; conv => whnf)
    (refine ⟨Nat, fun k => ⟨[(4, .ptr 4 0), (10, .ptr 10 0), (12, .ptr 12 0), (105, .own 102), (106, .d (.int .i64 3)), (107, .d (.int .i64 k))], [(4, .box [.d (.str []), .nil 5]), (10, .box ((zoneD (putZ z s)).map .d)), (12, .box ((layD (putZ z s) (behindOf (putZ z s))).map .d)), (102, .row 86 2 [[.fn 34 [] [], .int .i64 21], [.fn 35 [] [], .int .i64 20], [.fn 36 [] [], .int .i64 30]])]⟩,
      fun k => k ≤ 3 ∧ (1 ≤ k → aliases (putZ z s) = true) ∧ (2 ≤ k → cutsB (putZ z s) (behindOf (putZ z s)) = true) ∧ (3 ≤ k → sigsB (putZ z s) (behindOf (putZ z s)) = true), fun k => 3 - k,
      ⟨0, ⟨by omega, fun h => by omega, fun h => by omega, fun h => by omega⟩, Weak.keep ⟨⟨rfl, rfl⟩, ⟨rfl, rfl⟩, ⟨rfl, rfl⟩, ⟨rfl, rfl⟩, ⟨rfl, rfl⟩, ⟨rfl, rfl⟩, trivial⟩ ⟨⟨rfl, rfl⟩, ⟨by (show some (Blk.box [AV.d (D.str z.apex), AV.d (D.slice 5 ((z.sets.map signedD).set (posOf z.sets (qOf s)) (signedD s)))]) = _; rw [← List.map_set, ← hput]; rfl), rfl⟩, ⟨rfl, rfl⟩, ⟨rfl, rfl⟩, trivial⟩⟩, ?_⟩
     rintro k ⟨hk, a1, a2, a3⟩
     rcases k with _ | _ | _ | _ | k
     all_goals conv => whnf)
    all_goals repeat' (first
      | (exact absurd hk (by omega))
      | (refine ⟨by decide, by decide, ?_⟩; conv => whnf)
      | (refine ⟨_, rfl, ?_⟩; conv => whnf)
      | (refine ⟨_, _, aliasesHold_fn (putZ z s) _ hpl, ?_⟩; conv => whnf)
      | (refine ⟨_, _, cutsHold_fn (putZ z s) _ hpl hbl, ?_⟩; conv => whnf)
      | (refine ⟨_, _, sigsHold_fn (putZ z s) _ hpl hbl, ?_⟩; conv => whnf)
      | (refine ⟨(by kernel_rfl : planOk _ _ = true), ?_⟩; conv => whnf)
      | (refine bcase_intro (fun h => ?_) (fun h => ?_) <;> (rw [h]; conv => whnf))
      | (refine ⟨0 + 1, ⟨by omega, fun _ => by simpa using h, fun h => by omega, fun h => by omega⟩, by decide, Weak.keep ⟨⟨rfl, rfl⟩, ⟨rfl, rfl⟩, ⟨rfl, rfl⟩, ⟨rfl, rfl⟩, ⟨rfl, rfl⟩, ⟨rfl, rfl⟩, trivial⟩ ⟨⟨rfl, rfl⟩, ⟨rfl, rfl⟩, ⟨rfl, rfl⟩, ⟨rfl, rfl⟩, trivial⟩⟩; done)
      | (refine ⟨0 + 1 + 1, ⟨by omega, fun _ => a1 (by omega), fun _ => by simpa using h, fun h => by omega⟩, by decide, Weak.keep ⟨⟨rfl, rfl⟩, ⟨rfl, rfl⟩, ⟨rfl, rfl⟩, ⟨rfl, rfl⟩, ⟨rfl, rfl⟩, ⟨rfl, rfl⟩, trivial⟩ ⟨⟨rfl, rfl⟩, ⟨rfl, rfl⟩, ⟨rfl, rfl⟩, ⟨rfl, rfl⟩, trivial⟩⟩; done)
      | (refine ⟨0 + 1 + 1 + 1, ⟨by omega, fun _ => a1 (by omega), fun _ => a2 (by omega), fun _ => by simpa using h⟩, by decide, Weak.keep ⟨⟨rfl, rfl⟩, ⟨rfl, rfl⟩, ⟨rfl, rfl⟩, ⟨rfl, rfl⟩, ⟨rfl, rfl⟩, ⟨rfl, rfl⟩, trivial⟩ ⟨⟨rfl, rfl⟩, ⟨rfl, rfl⟩, ⟨rfl, rfl⟩, ⟨rfl, rfl⟩, trivial⟩⟩; done)
      | (refine ret_data rfl ?_; rw [cont, if_neg (by simp [a1 (by omega)]), if_neg (by simp [a2 (by omega)]), if_neg (by simp [a3 (by omega)])]; rfl)
      | (refine ret_data rfl ?_; rw [cont, if_neg (by simp [a1 (by omega)]), if_neg (by simp [a2 (by omega)]), if_pos (by assumption)]; rfl)
      | (refine ret_data rfl ?_; rw [cont, if_neg (by simp [a1 (by omega)]), if_pos (by assumption)]; rfl)
      | (refine ret_data rfl ?_; rw [cont, if_pos (by assumption)]; rfl)
      | (refine And.intro ?_ ?_ <;> (conv => whnf))
      | fail)
end Go.Proofs.YtpbidmocchbbiaaDoor

/-
  The examples of layer 6: contracts of set, example, Texts, head.
-/
set_option linter.unusedSimpArgs false
set_option linter.unusedVariables false
set_option maxRecDepth 100000
namespace NP
open NQ Go
def oneSet (n : Bs) (k : Int) (t : Bs) (a b : Int) : Signed := ⟨⟨n, k, 60, [⟨t, a, b⟩]⟩, []⟩
def exZ : Zone := ⟨[120], [oneSet [120] 2 [97, 46, 110, 115] 0 0, oneSet [120] 4 [] 1 60, oneSet [119, 46, 120] 1 [] 7 0, oneSet [121, 46, 120] 2 [98, 46, 121, 46, 120] 0 0, oneSet [98, 46, 121, 46, 120] 1 [] 9 0]⟩
def txAt (a b : List Bs) (i : Nat) : Bool := match a[i]?, b[i]? with | some x, some y => !(!(x == y)) | _, _ => false
def textsB (a b : List Bs) : Bool := !((a.length : Int) != (b.length : Int)) && (List.range a.length).all (txAt a b)
theorem textsB_iff {a b : List Bs} : textsB a b = true ↔ a = b := by
  unfold textsB
  constructor
  · intro h
    simp only [Bool.and_eq_true, List.all_eq_true, List.mem_range, Bool.not_eq_true', bne_eq_false_iff_eq] at h
    obtain ⟨h1, h2⟩ := h
    have hl : a.length = b.length := by omega
    apply List.ext_getElem? 
    intro i
    by_cases hi : i < a.length
    · have := h2 i hi
      simp only [txAt, List.getElem?_eq_getElem hi, List.getElem?_eq_getElem (show i < b.length by omega), Bool.not_not, beq_iff_eq] at this
      rw [List.getElem?_eq_getElem hi, List.getElem?_eq_getElem (show i < b.length by omega), this]
    · rw [List.getElem?_eq_none (by omega), List.getElem?_eq_none (by omega)]
  · rintro rfl
    simp only [Bool.and_eq_true, List.all_eq_true, List.mem_range, Bool.not_eq_true', bne_self_eq_false, true_and]
    intro i hi
    simp [txAt, List.getElem?_eq_getElem hi]
end NP
namespace Go.Proofs.YtpbidmocchbbiaaDoor
open NQ Go NP Go.RowKit

theorem lset_fn (n : Bs) (k : Int) (t : Bs) (a b : Int) : NQ.Fn cx 13 [.str n, .int .i64 k, .str t, .int .i64 a, .int .i64 b] (.agg ((signedD (oneSet n k t a b)).map .d)) [] := by
  refine fn_of_vc tyOk mixed Tryd.func13 (by kernel_rfl) rfl (Nat.le_of_ble_eq_true rfl) ?_; conv => whnf
  exact ret_data rfl rfl
theorem texts_fn (a b : List Bs) (ha : a.length ≤ 100000) (hb : b.length ≤ 100000) : NQ.Fn cx 16 [.slice 1 (a.map strD), .slice 1 (b.map strD)] (.d (.bool (textsB a b))) [] := by
  refine fn_of_vc tyOk mixed Tryd.func16 (by kernel_rfl) rfl (Nat.le_of_ble_eq_true rfl) ?_; conv => whnf
  (refine bcase_intro (fun h => ?_) (fun h => ?_) <;> (rw [h]; conv => whnf))
  · refine ret_data rfl ?_; show AV.d (D.bool false) = _; simp only [List.length_map] at h; simp only [textsB, h]; rfl
  have hl0 := h
  simp only [List.length_map] at hl0
  have hl : a.length = b.length := by simp at hl0; omega
  refine ⟨Nat, fun k => ⟨[(0, .d (.slice 1 (a.map strD))), (1, .d (.slice 1 (b.map strD))), (5, .d (.int .i64 k))], []⟩, fun k => k ≤ a.length ∧ (List.range k).all (txAt a b) = true, fun k => a.length - k, ⟨0, ⟨by omega, rfl⟩, Weak.keep ⟨⟨rfl, rfl⟩, ⟨rfl, rfl⟩, ⟨rfl, rfl⟩, trivial⟩ trivial⟩, fun k ⟨hk, hall⟩ => ?_⟩
  conv => whnf
  refine bcase_intro (fun h1 => ?_) (fun h1 => ?_) <;> (rw [h1]; conv => whnf)
  · have hlt : k < a.length := by simp at h1; omega
    have hlt2 : k < b.length := by omega
    obtain ⟨x, hx⟩ : ∃ s, a[k]? = some s := ⟨_, List.getElem?_eq_getElem hlt⟩
    obtain ⟨y, hy⟩ : ∃ s, b[k]? = some s := ⟨_, List.getElem?_eq_getElem hlt2⟩
    have hat : txAt a b k = !(!(x == y)) := by simp only [txAt, hx, hy]
    (refine ⟨(by kernel_rfl : planOk _ _ = true), ?_⟩; conv => whnf)
    refine ⟨Int.natCast_nonneg k, strD x, map_get hx, ?_⟩
    conv => whnf
    refine ⟨Int.natCast_nonneg k, strD y, map_get hy, ?_⟩
    conv => whnf
    (refine bcase_intro (fun h => ?_) (fun h => ?_) <;> (rw [h]; conv => whnf))
    · refine ret_data rfl ?_; show AV.d (D.bool false) = _
      rw [textsB, range_all_false hlt (by rw [hat, h]; rfl), Bool.and_false]
    · refine ⟨k + 1, ⟨by omega, ?_⟩, by (show a.length - (k + 1) < a.length - k; omega), Weak.keep ⟨⟨rfl, rfl⟩, ⟨rfl, rfl⟩, ⟨wrap_succ (by omega), rfl⟩, trivial⟩ trivial⟩
      rw [range_all_succ, hall, hat, h]; rfl
  · refine ret_data rfl ?_
    obtain rfl : k = a.length := by simp at h1; omega
    show AV.d (D.bool true) = _
    rw [textsB, hall, hl0]; rfl
theorem example_fn : NQ.Fn cx 19 [] (.agg ((zoneD exZ).map .d)) [] := by
  refine fn_of_vc tyOk mixed Tryd.func19 (by kernel_rfl) rfl (Nat.le_of_ble_eq_true rfl) ?_; conv => whnf
  repeat' (first
    | (refine ⟨_, _, lset_fn _ _ _ _ _, ?_⟩; conv => whnf)
    | fail)
  exact ret_data rfl rfl

theorem head_fn : NQ.Fn cx 7 [] (.d (.bool true)) [] := by
  have n1 : namesR exZ = ([[120], [119, 46, 120], [121, 46, 120]], 0) := by kernel_rfl
  have c1 : cutR exZ [98, 46, 121, 46, 120] = ([121, 46, 120], true, 0) := by kernel_rfl
  have c2 : cutR exZ [119, 46, 120] = ([], false, 0) := by kernel_rfl
  have s1 : serialR exZ = (1, 0) := by kernel_rfl
  have p1 : putR exZ (oneSet [98, 46, 121, 46, 120] 5 [97] 0 0) = (zeroZn, 20) := by kernel_rfl
  have p2 : putR exZ (oneSet [119, 46, 120] 3 [120] 0 0) = (zeroZn, 21) := by kernel_rfl
  have d1 : dropR exZ ⟨[121, 46, 120], 2⟩ = (dropZ exZ ⟨[121, 46, 120], 2⟩, 0) := by kernel_rfl
  have n2 : namesR (dropZ exZ ⟨[121, 46, 120], 2⟩) = ([[120], [119, 46, 120], [98, 46, 121, 46, 120]], 0) := by kernel_rfl
  have d2 : dropR exZ ⟨[120], 4⟩ = (zeroZn, 22) := by kernel_rfl
  have v1 : validZ exZ = true := by kernel_rfl
  have v2 : validZ ⟨[120], []⟩ = false := by kernel_rfl
  have fN := names_fn exZ; rw [n1] at fN
  have fC1 := cut_fn exZ [98, 46, 121, 46, 120]; rw [c1] at fC1
  have fC2 := cut_fn exZ [119, 46, 120]; rw [c2] at fC2
  have fS := serial_fn exZ; rw [s1] at fS
  have fP1 := put_fn exZ (oneSet [98, 46, 121, 46, 120] 5 [97] 0 0); rw [p1] at fP1
  have fP2 := put_fn exZ (oneSet [119, 46, 120] 3 [120] 0 0); rw [p2] at fP2
  have fD1 := drop_fn exZ ⟨[121, 46, 120], 2⟩; rw [d1] at fD1
  have fN2 := names_fn (dropZ exZ ⟨[121, 46, 120], 2⟩); rw [n2] at fN2
  have fD2 := drop_fn exZ ⟨[120], 4⟩; rw [d2] at fD2
  have fV1 := zvalid_fn exZ; rw [v1] at fV1
  have fV2 := zvalid_fn ⟨[120], []⟩; rw [v2] at fV2
  have t1 : textsB [[120], [119, 46, 120], [121, 46, 120]] [[120], [119, 46, 120], [121, 46, 120]] = true := by kernel_rfl
  have t2 : textsB [[120], [119, 46, 120], [98, 46, 121, 46, 120]] [[120], [119, 46, 120], [98, 46, 121, 46, 120]] = true := by kernel_rfl
  have fT1 := texts_fn [[120], [119, 46, 120], [121, 46, 120]] [[120], [119, 46, 120], [121, 46, 120]] (by simp) (by simp); rw [t1] at fT1
  have fT2 := texts_fn [[120], [119, 46, 120], [98, 46, 121, 46, 120]] [[120], [119, 46, 120], [98, 46, 121, 46, 120]] (by simp) (by simp); rw [t2] at fT2
  clear n1 c1 c2 s1 p1 p2 d1 n2 d2 v1 v2 t1 t2
  refine fn_of_vc tyOk mixed Tryd.func7 (by kernel_rfl) rfl (Nat.le_of_ble_eq_true rfl) ?_; conv => whnf
  (refine ⟨_, _, example_fn, ?_⟩; conv => whnf)
  (refine ⟨_, _, fN, ?_⟩; conv => whnf)
  (refine ⟨_, _, fC1, ?_⟩; conv => whnf)
  (refine ⟨_, _, fC2, ?_⟩; conv => whnf)
  (refine ⟨_, _, fS, ?_⟩; conv => whnf)
  (refine ⟨(by kernel_rfl : planOk _ _ = true), ?_⟩; conv => whnf)
  (refine ⟨_, _, lset_fn _ _ _ _ _, ?_⟩; conv => whnf)
  (refine ⟨_, _, fP1, ?_⟩; conv => whnf)
  (refine ⟨(by kernel_rfl : planOk _ _ = true), ?_⟩; conv => whnf)
  (refine ⟨_, _, lset_fn _ _ _ _ _, ?_⟩; conv => whnf)
  (refine ⟨_, _, fP2, ?_⟩; conv => whnf)
  (refine ⟨_, _, fD1, ?_⟩; conv => whnf)
  (refine ⟨_, _, fN2, ?_⟩; conv => whnf)
  (refine ⟨_, _, fD2, ?_⟩; conv => whnf)
  refine ⟨_, fT1, rfl, ?_⟩; conv => whnf
  refine ⟨_, fT2, rfl, ?_⟩; conv => whnf
  (refine ⟨_, _, fV1, ?_⟩; conv => whnf)
  (refine ⟨_, _, fV2, ?_⟩; conv => whnf)
  exact ret_data rfl rfl
end Go.Proofs.YtpbidmocchbbiaaDoor

/-
  The law ZoneCuts: the walk.
-/
set_option linter.unusedSimpArgs false
set_option linter.unusedVariables false
set_option maxRecDepth 100000
namespace NP
open NQ Go
theorem labs_le {s : Bs} (h : validN s = true) : (labs s).length ≤ 8 := by
  have := valid_okL h
  simp [okL] at this
  exact this.1
theorem cutGo_len {z : Zone} : ∀ {f : Nat} {n c : Bs}, validN n = true → underN n z.apex = true → f = (labs n).length + 1 → cutGo z f n = some c → (labs c).length ≤ (labs n).length
  | 0, n, c, _, _, _, h => by simp [cutGo] at h
  | f + 1, n, c, hv, hu, hf, h => by
    unfold cutGo at h
    split at h
    · cases h
    · rename_i hne
      split at h
      · cases h; exact Nat.le_refl _
      · obtain ⟨_, k2, k3⟩ := under_up hv hu hne
        have := cutGo_len (parent_valid hv) k2 (by omega) h
        omega
theorem cutR_ok {z : Zone} {s c : Bs} {is : Bool} {e : Int} (h : cutR z s = (c, is, e)) : (e ≠ 0 ∧ c = [] ∧ is = false) ∨ (e = 0 ∧ validN s = true ∧ validZ z = true ∧ underN s z.apex = true ∧ ((is = true ∧ cutZ z s = some c) ∨ (is = false ∧ c = [] ∧ cutZ z s = none))) := by
  unfold cutR at h
  split at h
  · cases h; exact .inl ⟨by decide, rfl, rfl⟩
  · rename_i h0
    split at h
    · cases h; exact .inl ⟨by decide, rfl, rfl⟩
    · rename_i h1
      simp only [Bool.or_eq_true, Bool.not_eq_true', not_or, Bool.not_eq_false] at h0 h1
      have hap := (validZ_ordered h0.2).apex
      have hu : underN s z.apex = true := by
        unfold underR at h1; rw [if_pos ⟨h0.1, hap⟩] at h1; exact h1
      split at h
      · rename_i hc; cases h; exact .inr ⟨rfl, h0.1, h0.2, hu, .inl ⟨rfl, hc⟩⟩
      · rename_i hc; cases h; exact .inr ⟨rfl, h0.1, h0.2, hu, .inr ⟨rfl, rfl, hc⟩⟩
theorem findR_ok {z : Zone} {q : Quest} (hq : questB q = true) (hv : validZ z = true) : ∃ sg, findR z q = (sg, hasS z.sets q, 0) := by
  unfold findR
  rw [if_neg (by simp [hq, hv])]
  by_cases hh : hasS z.sets q = true
  · rw [if_neg (by simp [hh]), hh]; exact ⟨_, rfl⟩
  · rw [if_pos (by simpa using hh)]
    exact ⟨_, by rw [show hasS z.sets q = false by simpa using hh]⟩
theorem valid_ne_nil {s : Bs} (h : validN s = true) : s ≠ [] := by rintro rfl; revert h; decide
end NP
namespace Go.Proofs.YtpbidmocchbbiaaDoor
open NQ Go NP Go.RowKit

theorem zoneCuts_fn (z : Zone) (s : Bs) : NQ.Fn cx 6 [.agg (zoneD z), .str s] (.d (.bool true)) [] := by
  refine fn_of_vc tyOk mixed Tryd.func6 (by kernel_rfl) rfl (Nat.le_of_ble_eq_true rfl) ?_; conv => whnf
  (refine ⟨_, _, head_fn, ?_⟩; conv => whnf)
  (refine ⟨_, _, usable_fn z, ?_⟩; conv => whnf)
  (refine bcase_intro (fun h => ?_) (fun h => ?_) <;> (rw [h]; conv => whnf))
  · exact ret_data rfl rfl
  have hv : validZ z = true := by simp at h; exact h.2
  obtain ⟨⟨c, is, e⟩, hc⟩ : ∃ x, cutR z s = x := ⟨_, rfl⟩
  have fC := cut_fn z s
  rw [hc] at fC
  (refine ⟨_, _, fC, ?_⟩; conv => whnf)
  rcases cutR_ok hc with ⟨he, rfl, rfl⟩ | ⟨rfl, hvs, _, hus, hcut⟩
  · have : (e != 0) = true := by simpa using he
    rw [this]
    conv => whnf
    exact ret_data rfl rfl
  conv => whnf
  refine ⟨Nat × Bs, fun x => ⟨[(2, .ptr 2 0), (5, .d (.bool true)), (6, .d (.str c)), (7, .d (.bool is)), (9, .d (.str x.2)), (39, .d (.int .i64 x.1))], [(2, .box ((zoneD z).map .d))]⟩,
    fun x => validN x.2 = true ∧ underN x.2 z.apex = true ∧ cutGo z ((labs x.2).length + 1) x.2 = cutZ z s ∧ x.1 + (labs x.2).length = (labs s).length, fun x => 9 - x.1,
    ⟨(0, s), ⟨hvs, hus, rfl, by simp⟩, Weak.keep ⟨⟨rfl, rfl⟩, ⟨rfl, rfl⟩, ⟨rfl, rfl⟩, ⟨rfl, rfl⟩, ⟨rfl, rfl⟩, ⟨rfl, rfl⟩, trivial⟩ ⟨⟨rfl, rfl⟩, trivial⟩⟩, ?_⟩
  rintro ⟨j, n⟩ ⟨hvn, hun, hgo, hj⟩
  simp only at hvn hun hgo hj
  have hl8 := labs_le hvs
  conv => whnf
  have hj9 : decide ((j : Int) < 9) = true := by simp; omega
  rw [hj9]
  conv => whnf
  have hnn := valid_ne_nil hvn
  refine bcase_intro (fun h1 => ?_) (fun h1 => ?_) <;> (rw [h1]; conv => whnf)
  · have hne : n = z.apex := by simpa using h1
    rw [cutGo, if_pos hne] at hgo
    rcases hcut with ⟨rfl, hh⟩ | ⟨rfl, rfl, hh⟩
    · rw [hh] at hgo; cases hgo
    · conv => whnf
      exact ret_data rfl rfl
  have hne : n ≠ z.apex := by simpa using h1
  obtain ⟨k1, k2, k3⟩ := under_up hvn hun hne
  rw [cutGo, if_neg hne] at hgo
  obtain ⟨sg, hsg⟩ := findR_ok (z := z) (q := ⟨n, 2⟩) (by simp [questB, hvn]) hv
  have fF := zfind_fn z ⟨n, 2⟩
  rw [hsg] at fF
  (refine ⟨_, _, fF, ?_⟩; conv => whnf)
  have hp : parentR n = (parentN n, 0) := by unfold parentR; rw [if_pos hvn, if_neg k1]
  have hpf := Parent_fn n
  rw [hp] at hpf
  rw [← k3] at hgo
  have hlen : ∀ c', cutGo z ((labs (parentN n)).length + 1) (parentN n) = some c' → (n == c') = false := fun c' hh => by
    have := cutGo_len (parent_valid hvn) k2 rfl hh
    simp; rintro rfl; omega
  have hn0 : (n == ([] : Bs)) = false := by simpa using hnn
  obtain ⟨hs, hhs⟩ : ∃ b, hasS z.sets ⟨n, 2⟩ = b := ⟨_, rfl⟩
  rw [hhs] at hgo ⊢
  have hstep : cutGo z ((labs (parentN n)).length + 1) (parentN n) = cutZ z s → ∃ y : Nat × Bs, (validN y.2 = true ∧ underN y.2 z.apex = true ∧ cutGo z ((labs y.2).length + 1) y.2 = cutZ z s ∧ y.1 + (labs y.2).length = (labs s).length) ∧ 9 - y.1 < 9 - j ∧ y = (j + 1, parentN n) := fun hh =>
    ⟨(j + 1, parentN n), ⟨parent_valid hvn, k2, hh, by (show j + 1 + (labs (parentN n)).length = _; omega)⟩, by (show 9 - (j + 1) < 9 - j; omega), rfl⟩
  rcases hcut with ⟨rfl, hh⟩ | ⟨rfl, rfl, hh⟩
  · rw [hh] at hgo
    cases hs with
    | true =>
      simp at hgo; subst hgo
      conv => whnf
      repeat' (first
        | (refine ⟨(by kernel_rfl : planOk _ _ = true), ?_⟩; conv => whnf)
        | (refine bcase_intro (fun h => ?_) (fun h => ?_) <;> (rw [h]; conv => whnf))
        | exact ret_data rfl rfl
        | exact absurd h (by simp)
        | fail)
    | false =>
      simp at hgo
      have hnc := hlen _ hgo
      obtain ⟨y, y1, y2, rfl⟩ := hstep (hgo.trans hh.symm)
      conv => whnf
      repeat' (first
        | (refine ⟨(by kernel_rfl : planOk _ _ = true), ?_⟩; conv => whnf)
        | (rw [hnc]; conv => whnf)
        | (refine ⟨_, _, hpf, ?_⟩; conv => whnf)
        | exact ⟨(j + 1, parentN n), y1, y2, Weak.keep ⟨⟨rfl, rfl⟩, ⟨rfl, rfl⟩, ⟨rfl, rfl⟩, ⟨rfl, rfl⟩, ⟨rfl, rfl⟩, ⟨wrap_succ (by omega), rfl⟩, trivial⟩ ⟨⟨rfl, rfl⟩, trivial⟩⟩
        | exact ret_data rfl rfl
        | fail)
  · rw [hh] at hgo
    cases hs with
    | true => simp at hgo
    | false =>
      simp at hgo
      obtain ⟨y, y1, y2, rfl⟩ := hstep (hgo.trans hh.symm)
      conv => whnf
      repeat' (first
        | (refine ⟨(by kernel_rfl : planOk _ _ = true), ?_⟩; conv => whnf)
        | (rw [hn0]; conv => whnf)
        | (refine ⟨_, _, hpf, ?_⟩; conv => whnf)
        | exact ⟨(j + 1, parentN n), y1, y2, Weak.keep ⟨⟨rfl, rfl⟩, ⟨rfl, rfl⟩, ⟨rfl, rfl⟩, ⟨rfl, rfl⟩, ⟨rfl, rfl⟩, ⟨wrap_succ (by omega), rfl⟩, trivial⟩ ⟨⟨rfl, rfl⟩, trivial⟩⟩
        | exact ret_data rfl rfl
        | fail)
end Go.Proofs.YtpbidmocchbbiaaDoor

/-
  Plain laws of valid zones: cuts and names.
-/
set_option linter.unusedSimpArgs false
set_option linter.unusedVariables false
set_option maxRecDepth 100000
namespace NP
open NQ Go
theorem zip_get {z : Zone} {i : Nat} {s : Signed} (h : z.sets[i]? = some s) (ho : Ordered z) : (behindOf z)[i]? = some (spec (highest z) s.set.name) := by
  rw [← behind_eq ho, behindR_spec ho, List.getElem?_map, h]; rfl
theorem behind_map {z : Zone} (ho : Ordered z) : behindOf z = z.sets.map fun s => spec (highest z) s.set.name := by
  rw [← behind_eq ho, behindR_spec ho]
/-- What the rules on cuts say of a set. -/
theorem cut_rule {z : Zone} (hv : validZ z = true) {s : Signed} (hs : s ∈ z.sets) : cutBad s (spec (highest z) s.set.name) = false := by
  have ho := validZ_ordered hv
  obtain ⟨i, hi⟩ := List.getElem?_of_mem hs
  simp only [validZ, Bool.and_eq_true] at hv
  have hc := hv.2.1.1.2
  simp only [cutsB, List.all_eq_true] at hc
  have := hc i (List.mem_range.2 (List.getElem?_eq_some_iff.1 hi).1)
  simp only [cutAt, hi, zip_get hi ho] at this
  simpa using this
theorem cutsL_iff (apex c : Bs) : ∀ (l : List Signed), c ∈ cutsL apex l ↔ ∃ s ∈ l, isCutAt apex s = true ∧ s.set.name = c
  | [] => by simp [cutsL]
  | s :: t => by
    have ih := cutsL_iff apex c t
    unfold cutsL
    split
    · rename_i h
      rw [List.mem_cons, ih]
      constructor
      · rintro (rfl | ⟨x, hx, k⟩)
        · exact ⟨s, List.mem_cons_self .., h, rfl⟩
        · exact ⟨x, List.mem_cons_of_mem _ hx, k⟩
      · rintro ⟨x, hx, k1, k2⟩
        rcases List.mem_cons.1 hx with rfl | hx
        · exact .inl k2.symm
        · exact .inr ⟨x, hx, k1, k2⟩
    · rename_i h
      rw [ih]
      constructor
      · rintro ⟨x, hx, k⟩; exact ⟨x, List.mem_cons_of_mem _ hx, k⟩
      · rintro ⟨x, hx, k1, k2⟩
        rcases List.mem_cons.1 hx with rfl | hx
        · exact absurd k1 h
        · exact ⟨x, hx, k1, k2⟩
theorem valid_bne {s : Bs} (h : validN s = true) : (s == []) = false := by have := valid_ne_nil h; simpa using this
/-- In a valid zone each cut is a highest one. -/
theorem cut_high {z : Zone} (hv : validZ z = true) {c : Bs} (hc : c ∈ cutsL z.apex z.sets) : c ∈ highest z := by
  have ho := validZ_ordered hv
  obtain ⟨hA, ha, hcov⟩ := high_facts ho
  obtain ⟨s, hs, hcut, rfl⟩ := (cutsL_iff _ _ _).1 hc
  obtain ⟨g, hg, hu⟩ := hcov _ hc
  have hsp := spec_of hA ha hg hu
  have hr := cut_rule hv hs
  rw [hsp] at hr
  have ht : s.set.type = 2 := by simp [isCutAt] at hcut; exact hcut.1
  unfold cutBad at hr
  rw [if_neg (by rw [valid_bne (high_valid ho hg)]; exact Bool.false_ne_true)] at hr
  split at hr
  · rename_i e; rw [← beq_iff_eq.1 e]; exact hg
  · rw [ht] at hr; cases hr
theorem has_cut {z : Zone} {n : Bs} (hne : n ≠ z.apex) : hasS z.sets ⟨n, 2⟩ = true ↔ n ∈ cutsL z.apex z.sets := by
  rw [cutsL_iff]
  simp only [hasS, List.any_eq_true, is, Bool.and_eq_true, beq_iff_eq, isCutAt, Bool.not_eq_true', beq_eq_false_iff_ne]
  constructor
  · rintro ⟨s, hs, h1, h2⟩; exact ⟨s, hs, ⟨h2, by rw [h1]; exact hne⟩, h1⟩
  · rintro ⟨s, hs, ⟨h1, _⟩, h2⟩; exact ⟨s, hs, h2, h1⟩
theorem under_trans {a b c : Bs} (h : underN a b = true) (k : underN b c = true) : underN a c = true := by
  rw [underN_iff] at *; exact k.trans h
theorem under_anti {a b : Bs} (h : underN a b = true) (k : underN b a = true) : a = b := by
  rw [underN_iff] at *
  exact back_inj ((k.eq_of_length (Nat.le_antisymm k.length_le h.length_le)))
theorem under_parent {n c : Bs} (hn : validN n = true) (h : underN n c = true) (hne : n ≠ c) : underN (parentN n) c = true := (under_up hn h hne).2.1
theorem parent_under {n : Bs} (hn : validN n = true) : underN n (parentN n) = true := by
  unfold underN; rw [labs_parent hn]; exact List.isSuffixOf_iff_suffix.2 (List.tail_suffix _)
theorem cutGo_some {z : Zone} : ∀ {f : Nat} {n c : Bs}, validN n = true → cutGo z f n = some c → c ∈ cutsL z.apex z.sets ∧ underN n c = true
  | 0, n, c, _, h => by simp [cutGo] at h
  | f + 1, n, c, hv, h => by
    unfold cutGo at h
    split at h
    · cases h
    · rename_i hne
      split at h
      · rename_i hh; cases h; exact ⟨(has_cut hne).1 hh, under_self n⟩
      · obtain ⟨h1, h2⟩ := cutGo_some (parent_valid hv) h
        exact ⟨h1, under_trans (parent_under hv) h2⟩
theorem cutGo_none {z : Zone} (ho : Ordered z) : ∀ {f : Nat} {n : Bs}, validN n = true → underN n z.apex = true → f = (labs n).length + 1 → cutGo z f n = none → ∀ c ∈ cutsL z.apex z.sets, underN n c = false
  | 0, n, _, _, hf, _ => by omega
  | f + 1, n, hv, hu, hf, h => by
    intro c hc
    obtain ⟨s, hs, hcut, hnm⟩ := (cutsL_iff _ _ _).1 hc
    have hca : underN c z.apex = true := by
      have := ho.under s hs
      unfold underR at this; rw [if_pos ⟨ho.name s hs, ho.apex⟩] at this; rw [← hnm]; exact this
    have hne' : c ≠ z.apex := by simp [isCutAt] at hcut; rw [← hnm]; exact hcut.2
    unfold cutGo at h
    split at h
    · rename_i e
      cases hun : underN n c with
      | false => rfl
      | true => rw [e] at hun; exact absurd (under_anti hca hun) hne'
    · rename_i hne
      split at h
      · cases h
      · rename_i hh
        obtain ⟨_, k2, k3⟩ := under_up hv hu hne
        have ih := cutGo_none ho (parent_valid hv) k2 (by omega) h c hc
        cases hun : underN n c with
        | false => rfl
        | true =>
          by_cases e : n = c
          · subst e; exact absurd ((has_cut hne).2 hc) hh
          · rw [under_parent hv hun e] at ih; cases ih
/-- The cut that a name is behind. -/
theorem cutZ_spec {z : Zone} (hv : validZ z = true) {n : Bs} (hn : validN n = true) (hu : underN n z.apex = true) :
    (cutZ z n = none ∧ spec (highest z) n = []) ∨ ∃ c, cutZ z n = some c ∧ spec (highest z) n = c ∧ c ∈ highest z ∧ c ≠ [] := by
  have ho := validZ_ordered hv
  obtain ⟨hA, ha, _⟩ := high_facts ho
  cases h : cutZ z n with
  | none => exact .inl ⟨rfl, spec_none fun c hc => cutGo_none ho hn hu rfl h c (high_mem hc)⟩
  | some c =>
    obtain ⟨h1, h2⟩ := cutGo_some hn h
    have h3 := cut_high hv h1
    exact .inr ⟨c, rfl, spec_of hA ha h3 h2, h3, valid_ne_nil (high_valid ho h3)⟩

theorem asc_snoc {l : List Bs} {n : Bs} (h : Asc l) (hn : ∀ a ∈ l, compareN a n < 0) : Asc (l ++ [n]) :=
  List.pairwise_append.2 ⟨h, List.pairwise_singleton _ _, fun a ha b hb => by rw [List.mem_singleton.1 hb]; exact hn a ha⟩
theorem nam_spec : ∀ (L : List (Signed × Bs)) (acc : List Bs), Asc acc → L.Pairwise (fun a b => compareN a.1.set.name b.1.set.name ≤ 0) → (∀ a ∈ acc, ∀ p ∈ L, compareN a p.1.set.name ≤ 0) →
    Asc (nam acc L) ∧ acc <+: nam acc L ∧ ∀ n, n ∈ nam acc L ↔ n ∈ acc ∨ ∃ p ∈ L, p.1.set.name = n ∧ namHid n p.2 = false
  | [], acc, h, _, _ => ⟨h, List.prefix_refl _, fun n => by simp [nam]⟩
  | (s, b) :: t, acc, h, hp, hle => by
    obtain ⟨p1, p2⟩ := List.pairwise_cons.1 hp
    unfold nam
    have hbase : ∀ a ∈ acc, ∀ p ∈ t, compareN a p.1.set.name ≤ 0 := fun a ha p hq => hle a ha p (List.mem_cons_of_mem _ hq)
    by_cases hh : namHid s.set.name b = true
    · rw [if_pos hh]
      obtain ⟨a1, a2, a3⟩ := nam_spec t acc h p2 hbase
      refine ⟨a1, a2, fun n => ?_⟩
      rw [a3 n]
      constructor
      · rintro (k | ⟨p, hp, k⟩)
        · exact .inl k
        · exact .inr ⟨p, List.mem_cons_of_mem _ hp, k⟩
      · rintro (k | ⟨p, hp, k1, k2⟩)
        · exact .inl k
        · rcases List.mem_cons.1 hp with rfl | hp
          · subst k1; exact absurd hh (by simp [k2])
          · exact .inr ⟨p, hp, k1, k2⟩
    · rw [if_neg hh]
      have hh' : namHid s.set.name b = false := by simpa using hh
      by_cases hnw : namNew acc s.set.name = true
      · rw [if_pos hnw]
        have hlt : ∀ a ∈ acc, compareN a s.set.name < 0 := fun a ha => by
          have hne : acc.length ≠ 0 := by intro e; rw [List.length_eq_zero_iff] at e; rw [e] at ha; cases ha
          have h1 := asc_last h hne a ha
          have h2 := hle (lastB acc) (lastB_mem hne) (s, b) (List.mem_cons_self ..)
          have h3 : lastB acc ≠ s.set.name := by
            simp only [namNew, Bool.or_eq_true, beq_iff_eq, Bool.not_eq_true', beq_eq_false_iff_ne] at hnw
            rcases hnw with k | k
            · omega
            · exact k
          have h4 : compareN (lastB acc) s.set.name < 0 := by
            rcases compareN_ord.range (lastB acc) s.set.name with e | e | e
            · omega
            · exact absurd ((compareN_ord.zero _ _).1 e) h3
            · simp only at h2; omega
          rcases compareN_ord.range a (lastB acc) with e | e | e
          · exact cN_trans (by omega) h4
          · rw [(compareN_ord.zero _ _).1 e]; exact h4
          · omega
        obtain ⟨a1, a2, a3⟩ := nam_spec t (acc ++ [s.set.name]) (asc_snoc h hlt) p2 fun a ha p hq => by
          rcases List.mem_append.1 ha with ha | ha
          · exact hbase a ha p hq
          · rw [List.mem_singleton.1 ha]; exact p1 p hq
        refine ⟨a1, (List.prefix_append _ _).trans a2, fun n => ?_⟩
        rw [a3 n]
        constructor
        · rintro (k | ⟨p, hp, k⟩)
          · rcases List.mem_append.1 k with k | k
            · exact .inl k
            · rw [List.mem_singleton.1 k]; exact .inr ⟨(s, b), List.mem_cons_self .., rfl, hh'⟩
          · exact .inr ⟨p, List.mem_cons_of_mem _ hp, k⟩
        · rintro (k | ⟨p, hp, k1, k2⟩)
          · exact .inl (List.mem_append_left _ k)
          · rcases List.mem_cons.1 hp with rfl | hp
            · subst k1; exact .inl (List.mem_append_right _ (List.mem_singleton.2 rfl))
            · exact .inr ⟨p, hp, k1, k2⟩
      · rw [if_neg hnw]
        have hin : s.set.name ∈ acc := by
          simp only [namNew, Bool.or_eq_true, beq_iff_eq, Bool.not_eq_true', beq_eq_false_iff_ne, not_or] at hnw
          have : lastB acc = s.set.name := Classical.byContradiction fun k => hnw.2 k
          rw [← this]; exact lastB_mem (by omega)
        obtain ⟨a1, a2, a3⟩ := nam_spec t acc h p2 hbase
        refine ⟨a1, a2, fun n => ?_⟩
        rw [a3 n]
        constructor
        · rintro (k | ⟨p, hp, k⟩)
          · exact .inl k
          · exact .inr ⟨p, List.mem_cons_of_mem _ hp, k⟩
        · rintro (k | ⟨p, hp, k1, k2⟩)
          · exact .inl k
          · rcases List.mem_cons.1 hp with rfl | hp
            · subst k1; exact .inl hin
            · exact .inr ⟨p, hp, k1, k2⟩
theorem zip_eq {z : Zone} (ho : Ordered z) : z.sets.zip (behindOf z) = z.sets.map fun s => (s, spec (highest z) s.set.name) := by
  rw [behind_map ho]
  induction z.sets with
  | nil => rfl
  | cons a t ih => simp [ih]
theorem names_spec {z : Zone} (hv : validZ z = true) : Asc (namesOf z) ∧ ∀ n, n ∈ namesOf z ↔ ∃ s ∈ z.sets, s.set.name = n ∧ (spec (highest z) n = [] ∨ spec (highest z) n = n) := by
  have ho := validZ_ordered hv
  unfold namesOf
  rw [zip_eq ho]
  obtain ⟨a1, _, a3⟩ := nam_spec (z.sets.map fun s => (s, spec (highest z) s.set.name)) [] List.Pairwise.nil (by
    rw [List.pairwise_map]; exact rising_pw ho.rising) (fun a ha => by cases ha)
  refine ⟨a1, fun n => ?_⟩
  rw [a3 n]
  simp only [List.mem_map, namHid, Bool.and_eq_false_iff, Bool.not_eq_false', beq_iff_eq]
  constructor
  · rintro (k | ⟨p, ⟨s, hs, rfl⟩, k1, k2⟩)
    · cases k
    · simp only at k1 k2; subst k1; exact ⟨s, hs, rfl, k2⟩
  · rintro ⟨s, hs, rfl, k⟩
    exact .inr ⟨_, ⟨s, hs, rfl⟩, rfl, k⟩
theorem set_under {z : Zone} (ho : Ordered z) {s : Signed} (hs : s ∈ z.sets) : underN s.set.name z.apex = true := by
  have := ho.under s hs
  unfold underR at this; rw [if_pos ⟨ho.name s hs, ho.apex⟩] at this; exact this
theorem names_first {z : Zone} (hv : validZ z = true) : ∃ t, namesOf z = z.apex :: t := by
  have ho := validZ_ordered hv
  obtain ⟨hA, hm⟩ := names_spec hv
  have hap : z.apex ∈ namesOf z := by
    have hh : hasS z.sets ⟨z.apex, 4⟩ = true := by
      have hv' := hv
      unfold validZ apexB at hv'; simp only [Bool.and_eq_true] at hv'; exact hv'.1.2.1.1
    simp only [hasS, List.any_eq_true, is, Bool.and_eq_true, beq_iff_eq] at hh
    obtain ⟨s, hs, h1, _⟩ := hh
    refine (hm _).2 ⟨s, hs, h1, .inl (spec_none fun c hc => ?_)⟩
    obtain ⟨x, hx, hcut, rfl⟩ := (cutsL_iff _ _ _).1 (high_mem hc)
    cases hun : underN z.apex x.set.name with
    | false => rfl
    | true =>
      have := under_anti hun (set_under ho hx)
      simp [isCutAt] at hcut
      exact absurd this.symm hcut.2
  cases hl : namesOf z with
  | nil => rw [hl] at hap; cases hap
  | cons a t =>
    rw [hl] at hap hA hm
    refine ⟨t, ?_⟩
    congr 1
    rcases List.mem_cons.1 hap with e | e
    · exact e.symm
    · have h1 := (List.pairwise_cons.1 hA).1 _ e
      obtain ⟨s, hs, h2, _⟩ := (hm a).1 (List.mem_cons_self ..)
      have h3 := stretch1 (set_under ho hs)
      rw [h2] at h3
      exact absurd h3 (cN_anti h1)
end NP

/-
  The law ZoneNames: the walk.
-/
set_option linter.unusedSimpArgs false
set_option linter.unusedVariables false
set_option maxRecDepth 100000
namespace NP
open NQ Go
def hasM (l : List Bs) : List (Bs × D) := l.foldl (fun m n => smPut n (.bool true) m) []
theorem hasM_snoc (l : List Bs) (n : Bs) : hasM (l ++ [n]) = smPut n (.bool true) (hasM l) := by simp [hasM]
theorem hasGo_find (n : Bs) : ∀ (l : List Bs) (m : List (Bs × D)), smFind n (l.foldl (fun m n => smPut n (.bool true) m) m) = if n ∈ l then some (.bool true) else smFind n m
  | [], m => by simp
  | a :: t, m => by
    rw [List.foldl_cons, hasGo_find n t, smFind_put]
    by_cases h : n ∈ t
    · simp [h]
    · by_cases e : n = a
      · simp [e]
      · simp [h, e]
theorem hasM_find (n : Bs) (l : List Bs) : smFind n (hasM l) = if n ∈ l then some (.bool true) else none := by
  rw [hasM, hasGo_find]; rfl
theorem nam_length : ∀ (L : List (Signed × Bs)) (acc : List Bs), (nam acc L).length ≤ acc.length + L.length
  | [], acc => by simp [nam]
  | (s, b) :: t, acc => by
    unfold nam
    have := nam_length t (if namHid s.set.name b = true then acc else if namNew acc s.set.name = true then acc ++ [s.set.name] else acc)
    refine Nat.le_trans this ?_
    repeat' split
    all_goals (try simp)
    all_goals (try omega)
theorem names_length (z : Zone) (ho : Ordered z) : (namesOf z).length ≤ z.sets.length := by
  have := nam_length (z.sets.zip (behindOf z)) []
  rw [zip_eq ho] at this
  unfold namesOf; rw [zip_eq ho]; simpa using this
theorem cutR_of {z : Zone} (hv : validZ z = true) {n : Bs} (hn : validN n = true) (hu : underN n z.apex = true) : cutR z n = match cutZ z n with | some c => (c, true, 0) | none => ([], false, 0) := by
  have ho := validZ_ordered hv
  unfold cutR
  rw [if_neg (by simp [hn, hv]), if_neg (by unfold underR; rw [if_pos ⟨hn, ho.apex⟩]; simp [hu])]
  cases cutZ z n <;> rfl
/-- What Cut says of a set's name. -/
theorem cutR_set {z : Zone} (hv : validZ z = true) {s : Signed} (hs : s ∈ z.sets) :
    (cutR z s.set.name = ([], false, 0) ∧ s.set.name ∈ namesOf z) ∨ (cutR z s.set.name = (s.set.name, true, 0) ∧ s.set.name ∈ namesOf z) ∨ ∃ c, cutR z s.set.name = (c, true, 0) ∧ c ≠ [] ∧ c ≠ s.set.name ∧ s.set.type = 1 := by
  have ho := validZ_ordered hv
  have hn := ho.name s hs
  have hu := set_under ho hs
  rw [cutR_of hv hn hu]
  obtain ⟨_, hm⟩ := names_spec hv
  rcases cutZ_spec hv hn hu with ⟨h1, h2⟩ | ⟨c, h1, h2, h3, h4⟩
  · exact .inl ⟨by rw [h1], (hm _).2 ⟨s, hs, rfl, .inl h2⟩⟩
  · by_cases e : c = s.set.name
    · exact .inr (.inl ⟨by rw [h1, e], (hm _).2 ⟨s, hs, rfl, .inr (h2.trans e)⟩⟩)
    · refine .inr (.inr ⟨c, by rw [h1], h4, e, ?_⟩)
      have hr := cut_rule hv hs
      rw [h2] at hr
      unfold cutBad at hr
      rw [if_neg (by simpa using h4), if_neg (by simpa using e)] at hr
      simpa using hr
theorem cutR_name {z : Zone} (hv : validZ z = true) {n : Bs} (h : n ∈ namesOf z) : validN n = true ∧ (cutR z n = ([], false, 0) ∨ cutR z n = (n, true, 0)) := by
  have ho := validZ_ordered hv
  obtain ⟨s, hs, rfl, k⟩ := ((names_spec hv).2 n).1 h
  have hn := ho.name s hs
  have hu := set_under ho hs
  refine ⟨hn, ?_⟩
  rw [cutR_of hv hn hu]
  rcases cutZ_spec hv hn hu with ⟨h1, h2⟩ | ⟨c, h1, h2, h3, h4⟩
  · exact .inl (by rw [h1])
  · rcases k with k | k
    · exact absurd (h2.symm.trans k) h4
    · exact .inr (by rw [h1, ← h2, k])
end NP
namespace Go.Proofs.YtpbidmocchbbiaaDoor
open NQ Go NP Go.RowKit

set_option maxHeartbeats 1000000 in
theorem zoneNames_fn (z : Zone) : NQ.Fn cx 3 [.agg (zoneD z)] (.d (.bool true)) [] := by
  refine fn_of_vc tyOk mixed Tryd.func3 (by kernel_rfl) rfl (Nat.le_of_ble_eq_true rfl) ?_; conv => whnf
  (refine ⟨_, _, head_fn, ?_⟩; conv => whnf)
  (refine ⟨_, _, usable_fn z, ?_⟩; conv => whnf)
  (refine bcase_intro (fun h => ?_) (fun h => ?_) <;> (rw [h]; conv => whnf))
  · exact ret_data rfl rfl
  have hv : validZ z = true := by simp at h; exact h.2
  have ho := validZ_ordered hv
  have hfew := ho.few
  have hR : namesR z = (namesOf z, 0) := by rw [namesR, if_neg (by simp [hv])]
  have fN := names_fn z
  rw [hR] at fN
  (refine ⟨_, _, fN, ?_⟩; conv => whnf)
  obtain ⟨t0, ht0⟩ := names_first hv
  have h0 : (namesOf z)[0]? = some z.apex := by rw [ht0]; rfl
  have hlen := names_length z ho
  have hA := (names_spec hv).1
  have hl0 : ((((namesOf z).map strD).length : Int) == 0) = false := by rw [ht0]; simp; omega
  have haa : (z.apex == z.apex) = true := by simp
  obtain ⟨l, hl⟩ : ∃ l, namesOf z = l := ⟨_, rfl⟩
  rw [hl] at h0 hlen hA hl0 ⊢
  (refine ⟨(by kernel_rfl : planOk _ _ = true), ?_⟩; conv => whnf)
  rw [hl0]
  conv => whnf
  refine ⟨by decide, strD z.apex, map_get (k := 0) h0, ?_⟩
  conv => whnf
  rw [haa]
  conv => whnf
  refine ⟨Nat, fun k => ⟨[(1, .ptr 1 0), (3, .d (.bool true)), (4, .d (.slice 1 (l.map strD))), (6, .omap 45), (46, .d (.slice 1 (l.map strD))), (47, .d (.int .i64 ((l.map strD).length : Int))), (48, .d (.int .i64 k))], [(1, .box ((zoneD z).map .d)), (45, .smap (hasM (l.take k)))]⟩,
    fun k => k ≤ l.length, fun k => l.length - k, ⟨0, by omega, Weak.keep ⟨⟨rfl, rfl⟩, ⟨rfl, rfl⟩, ⟨rfl, rfl⟩, ⟨rfl, rfl⟩, ⟨rfl, rfl⟩, ⟨rfl, rfl⟩, ⟨rfl, rfl⟩, trivial⟩ ⟨⟨rfl, rfl⟩, ⟨rfl, rfl⟩, trivial⟩⟩, fun k hk => ?_⟩
  conv => whnf
  refine bcase_intro (fun h1 => ?_) (fun h1 => ?_) <;> (rw [h1]; conv => whnf)
  · have hlt : k < l.length := by simp at h1; omega
    obtain ⟨n, hn⟩ : ∃ n, l[k]? = some n := ⟨_, List.getElem?_eq_getElem hlt⟩
    have hmem : n ∈ namesOf z := by rw [hl]; exact List.mem_of_getElem? hn
    obtain ⟨hvn, hcut⟩ := cutR_name hv hmem
    have hsn : hasM (l.take (k + 1)) = smPut n (.bool true) (hasM (l.take k)) := by rw [take_snoc hn, hasM_snoc]
    have hnn : (n == n) = true := by simp
    refine ⟨Int.natCast_nonneg k, strD n, map_get hn, ?_⟩
    conv => whnf
    have fC := cut_fn z n
    have hprev : decide ((k : Int) > 0) = true → ∃ p, l[k - 1]? = some p ∧ compareR p n = (compareN p n, 0) ∧ decide (compareN p n ≥ 0) = false := fun hk0 => by
      have hk0 : 0 < k := by simpa using hk0
      obtain ⟨p, hp⟩ : ∃ p, l[k - 1]? = some p := ⟨_, List.getElem?_eq_getElem (by omega)⟩
      have hvp : validN p = true := (cutR_name hv (by rw [hl]; exact List.mem_of_getElem? hp)).1
      refine ⟨p, hp, by unfold compareR; rw [if_pos ⟨hvp, hvn⟩], ?_⟩
      obtain ⟨q1, e1⟩ := List.getElem?_eq_some_iff.1 hp
      obtain ⟨q2, e2⟩ := List.getElem?_eq_some_iff.1 hn
      have := List.pairwise_iff_getElem.1 hA (k - 1) k q1 q2 (by omega)
      rw [e1, e2] at this
      simp; omega
    have fin : ∀ {P : Prop}, ((k + 1 ≤ l.length) → P) → P := fun h => h hlt
    rcases hcut with hc | hc <;> rw [hc] at fC
    all_goals (refine ⟨_, _, fC, ?_⟩; conv => whnf)
    all_goals (try (rw [hnn]; conv => whnf))
    all_goals (refine bcase_intro (fun h2 => ?_) (fun h2 => ?_) <;> (rw [h2]; conv => whnf))
    all_goals first
      | (obtain ⟨p, hp, hcmp, hge⟩ := hprev h2
         have fK := Compare_fn p n
         rw [hcmp] at fK
         refine ⟨(idx_prev h2 (by omega)).1, strD p, idx_prev_get h2 (by omega) hp, ?_⟩
         conv => whnf
         ((refine ⟨_, _, fK, ?_⟩; conv => whnf))
         rw [hge]
         conv => whnf
         refine ⟨k + 1, hlt, by (show l.length - (k + 1) < l.length - k; omega), Weak.keep ⟨⟨rfl, rfl⟩, ⟨rfl, rfl⟩, ⟨rfl, rfl⟩, ⟨rfl, rfl⟩, ⟨rfl, rfl⟩, ⟨rfl, rfl⟩, ⟨wrap_succ (by omega), rfl⟩, trivial⟩ ⟨⟨rfl, rfl⟩, ⟨by (show some (Blk.smap _) = some (Blk.smap _); rw [hsn]), rfl⟩, trivial⟩⟩; done)
      | (refine ⟨k + 1, hlt, by (show l.length - (k + 1) < l.length - k; omega), Weak.keep ⟨⟨rfl, rfl⟩, ⟨rfl, rfl⟩, ⟨rfl, rfl⟩, ⟨rfl, rfl⟩, ⟨rfl, rfl⟩, ⟨rfl, rfl⟩, ⟨wrap_succ (by omega), rfl⟩, trivial⟩ ⟨⟨rfl, rfl⟩, ⟨by (show some (Blk.smap _) = some (Blk.smap _); rw [hsn]), rfl⟩, trivial⟩⟩; done)
      | fail
  · obtain rfl : k = l.length := by simp at h1; omega
    refine ⟨Nat, fun k => ⟨[(1, .ptr 1 0), (3, .d (.bool true)), (6, .omap 45), (92, .d (.slice 5 (z.sets.map signedD))), (93, .d (.int .i64 ((z.sets.map signedD).length : Int))), (94, .d (.int .i64 k))], [(1, .box ((zoneD z).map .d)), (45, .smap (hasM l))]⟩,
      fun k => k ≤ z.sets.length, fun k => z.sets.length - k, ⟨0, by omega, Weak.keep ⟨⟨rfl, rfl⟩, ⟨rfl, rfl⟩, ⟨rfl, rfl⟩, ⟨rfl, rfl⟩, ⟨rfl, rfl⟩, ⟨rfl, rfl⟩, trivial⟩ ⟨⟨rfl, rfl⟩, ⟨by (show some (Blk.smap (hasM (l.take l.length))) = _; rw [List.take_length]), rfl⟩, trivial⟩⟩, fun k hk => ?_⟩
    conv => whnf
    refine bcase_intro (fun h1 => ?_) (fun h1 => ?_) <;> (rw [h1]; conv => whnf)
    · have hlt : k < z.sets.length := by simp at h1; omega
      obtain ⟨s, hs⟩ : ∃ s, z.sets[k]? = some s := ⟨_, List.getElem?_eq_getElem hlt⟩
      refine ⟨Int.natCast_nonneg k, signedD s, map_get hs, ?_⟩
      conv => whnf
      have fC := cut_fn z s.set.name
      have hf := hasM_find s.set.name l
      have e0 : (⟨#[]⟩ : ByteArray).data.toList = [] := rfl
      rcases cutR_set hv (List.mem_of_getElem? hs) with ⟨hc, hm⟩ | ⟨hc, hm⟩ | ⟨c, hc, hc1, hc2, hc3⟩
      · rw [hl] at hm
        rw [if_pos hm] at hf
        rw [hc] at fC
        (refine ⟨_, _, fC, ?_⟩; conv => whnf)
        repeat' (first
          | (refine ⟨(by kernel_rfl : planOk _ _ = true), ?_⟩; conv => whnf)
          | (rw [hf]; conv => whnf)
          | (refine bcase_intro (fun h => ?_) (fun h => ?_) <;> (rw [h]; conv => whnf))
          | (refine ⟨k + 1, hlt, by (show z.sets.length - (k + 1) < z.sets.length - k; omega), Weak.keep ⟨⟨rfl, rfl⟩, ⟨rfl, rfl⟩, ⟨rfl, rfl⟩, ⟨rfl, rfl⟩, ⟨rfl, rfl⟩, ⟨wrap_succ (by omega), rfl⟩, trivial⟩ ⟨⟨rfl, rfl⟩, ⟨rfl, rfl⟩, trivial⟩⟩; done)
          | fail)
      · rw [hl] at hm
        rw [if_pos hm] at hf
        rw [hc] at fC
        (refine ⟨_, _, fC, ?_⟩; conv => whnf)
        repeat' (first
          | (refine ⟨(by kernel_rfl : planOk _ _ = true), ?_⟩; conv => whnf)
          | (rw [hf]; conv => whnf)
          | (refine bcase_intro (fun h => ?_) (fun h => ?_) <;> (rw [h]; conv => whnf))
          | (refine ⟨k + 1, hlt, by (show z.sets.length - (k + 1) < z.sets.length - k; omega), Weak.keep ⟨⟨rfl, rfl⟩, ⟨rfl, rfl⟩, ⟨rfl, rfl⟩, ⟨rfl, rfl⟩, ⟨rfl, rfl⟩, ⟨wrap_succ (by omega), rfl⟩, trivial⟩ ⟨⟨rfl, rfl⟩, ⟨rfl, rfl⟩, trivial⟩⟩; done)
          | fail)
      · rw [hc] at fC
        (refine ⟨_, _, fC, ?_⟩; conv => whnf)
        have ht : (s.set.type == 1) = true := by rw [hc3]; rfl
        have hc0 : (c == []) = false := by simpa using hc1
        repeat' (first
          | (refine ⟨(by kernel_rfl : planOk _ _ = true), ?_⟩; conv => whnf)
          | (rw [ht]; conv => whnf)
          | (rw [e0]; rw [hc0]; conv => whnf)
          | (rw [hc0]; conv => whnf)
          | (split at hf <;> (rw [hf]; conv => whnf))
          | (refine ⟨k + 1, hlt, by (show z.sets.length - (k + 1) < z.sets.length - k; omega), Weak.keep ⟨⟨rfl, rfl⟩, ⟨rfl, rfl⟩, ⟨rfl, rfl⟩, ⟨rfl, rfl⟩, ⟨rfl, rfl⟩, ⟨wrap_succ (by omega), rfl⟩, trivial⟩ ⟨⟨rfl, rfl⟩, ⟨rfl, rfl⟩, trivial⟩⟩; done)
          | fail)
    · exact ret_data rfl rfl
end Go.Proofs.YtpbidmocchbbiaaDoor

/-
  Plain laws of zones without signatures.
-/
set_option linter.unusedSimpArgs false
set_option linter.unusedVariables false
set_option maxRecDepth 100000
namespace NP
open NQ Go
def unS (s : Signed) : Signed := ⟨s.set, []⟩
def unZ (z : Zone) : Zone := ⟨z.apex, z.sets.map unS⟩
theorem un_get (z : Zone) (i : Nat) : (unZ z).sets[i]? = (z.sets[i]?).map unS := List.getElem?_map ..
theorem un_len (z : Zone) : (unZ z).sets.length = z.sets.length := List.length_map ..
theorem un_has (l : List Signed) (q : Quest) : hasS (l.map unS) q = hasS l q := by
  simp only [hasS, List.any_map]; rfl
theorem un_pos (q : Quest) : ∀ (l : List Signed), posOf (l.map unS) q = posOf l q
  | [] => rfl
  | s :: t => by
    have ih := un_pos q t
    unfold posOf at ih ⊢
    rw [List.map_cons, List.takeWhile_cons, List.takeWhile_cons]
    have e : (unS s).place = s.place := rfl
    rw [e]
    split
    · simp only [List.length_cons, ih]
    · rfl
theorem un_cuts (apex n : Bs) (l : List Signed) : cutsOf apex (l.map unS) n = cutsOf apex l n := by
  simp only [cutsOf, List.any_map]; rfl
theorem un_bh (f : Bs → Bool) : ∀ (l : List Signed) (c : Bs), bh f c (l.map unS) = bh f c l
  | [], _ => rfl
  | s :: t, c => by
    show _ :: bh f _ (t.map unS) = _ :: bh f _ t
    rw [un_bh f t]; rfl
theorem un_behind (z : Zone) : behindOf (unZ z) = behindOf z := by
  have : cutsOf (unZ z).apex (unZ z).sets = cutsOf z.apex z.sets := funext fun n => un_cuts _ _ _
  unfold behindOf; rw [this]; exact un_bh _ _ _
theorem all_congr_at {f g : Nat → Bool} (h : ∀ i, f i = g i) (n : Nat) : (List.range n).all f = (List.range n).all g := by rw [show f = g from funext h]
theorem un_ordered (z : Zone) : ordered (unZ z) = ordered z := by
  unfold ordered
  rw [un_len, all_congr_at (f := ordAt (unZ z)) (g := ordAt z) fun i => by
    unfold ordAt; rw [un_get, un_get]; cases z.sets[i]? <;> cases z.sets[i - 1]? <;> rfl]
  rfl
theorem un_apex (z : Zone) : apexB (fun t => hasS (unZ z).sets ⟨(unZ z).apex, t⟩) (unZ z) = apexB (fun t => hasS z.sets ⟨z.apex, t⟩) z := by
  unfold apexB
  rw [un_len, all_congr_at (f := fitAt (unZ z)) (g := fitAt z) fun i => by
    unfold fitAt; rw [un_get]; cases z.sets[i]? <;> rfl]
  show (hasS (z.sets.map unS) _ && hasS (z.sets.map unS) _ && _) = _
  rw [un_has, un_has]; rfl
theorem un_alias (z : Zone) : aliases (unZ z) = aliases z := by
  unfold aliases
  rw [un_len, all_congr_at (f := aliAt (unZ z)) (g := aliAt z) fun i => by
    unfold aliAt; rw [un_get, un_get, un_get, un_len]
    cases z.sets[i]? <;> cases z.sets[i - 1]? <;> cases z.sets[i + 1]? <;> rfl]
theorem un_cutsB (z : Zone) (b : List Bs) : cutsB (unZ z) b = cutsB z b := by
  unfold cutsB
  rw [un_len, all_congr_at (f := cutAt (unZ z) b) (g := cutAt z b) fun i => by
    unfold cutAt; rw [un_get]; cases z.sets[i]? <;> cases b[i]? <;> rfl]
theorem un_sigs (z : Zone) (b : List Bs) (hb : b.length = z.sets.length) : sigsB (unZ z) b = true := by
  unfold sigsB
  rw [un_len, List.all_eq_true]
  intro i hi
  have hi := List.mem_range.1 hi
  unfold sgnAt
  rw [un_get, List.getElem?_eq_getElem hi, List.getElem?_eq_getElem (by omega)]
  simp [sgnBad, unS]
theorem un_form (z : Zone) : formB (unZ z) = true := by
  unfold formB
  rw [un_len, List.all_eq_true]
  intro i hi
  have hi := List.mem_range.1 hi
  unfold frmAt
  rw [un_get, List.getElem?_eq_getElem hi]
  simp [inForm, unS]
theorem un_valid {z : Zone} (h : validZ z = true) : validZ (unZ z) = true := by
  unfold validZ at h ⊢
  simp only [Bool.and_eq_true] at h
  rw [un_ordered, un_apex, un_alias, un_behind, un_cutsB, un_sigs z (behindOf z) (bh_length _ _ _), un_form, h.1.1, h.1.2, h.2.1.1.1, h.2.1.1.2]
  rfl
theorem un_nam : ∀ (l : List Signed) (b : List Bs) (acc : List Bs), nam acc ((l.map unS).zip b) = nam acc (l.zip b)
  | [], b, acc => rfl
  | s :: t, [], acc => rfl
  | s :: t, x :: b, acc => by
    show nam _ ((t.map unS).zip b) = nam _ (t.zip b)
    rw [un_nam t b]; rfl
theorem un_names {z : Zone} (h : validZ z = true) : namesR (unZ z) = namesR z := by
  unfold namesR
  rw [h, un_valid h]
  show (namesOf (unZ z), (0 : Int)) = (namesOf z, 0)
  unfold namesOf
  rw [un_behind]
  congr 1
  exact un_nam _ _ _
theorem un_cutGo (z : Zone) : ∀ (f : Nat) (n : Bs), cutGo (unZ z) f n = cutGo z f n
  | 0, _ => rfl
  | f + 1, n => by
    unfold cutGo
    rw [un_cutGo z f]
    show (if n = z.apex then none else if hasS (z.sets.map unS) ⟨n, 2⟩ = true then some n else _) = _
    rw [un_has]
theorem un_cut {z : Zone} (h : validZ z = true) (s : Bs) : cutR (unZ z) s = cutR z s := by
  unfold cutR
  rw [h, un_valid h]
  unfold cutZ
  rw [un_cutGo]; rfl
theorem un_serial {z : Zone} (h : validZ z = true) : serialR (unZ z) = serialR z := by
  unfold serialR
  rw [h, un_valid h]
  show (serialOf (unZ z), (0 : Int)) = (serialOf z, 0)
  congr 1
  unfold serialOf
  rw [un_get]
  show (match (z.sets[posOf (z.sets.map unS) ⟨z.apex, 4⟩]?).map unS with | some s => _ | none => _) = _
  rw [un_pos]
  cases z.sets[posOf z.sets ⟨z.apex, 4⟩]? <;> rfl
theorem serialR_ok {z : Zone} (h : validZ z = true) : serialR z = (serialOf z, 0) := by unfold serialR; rw [h]; rfl
theorem namesR_ok {z : Zone} (h : validZ z = true) : namesR z = (namesOf z, 0) := by unfold namesR; rw [h]; rfl
end NP

/-
  The law ZoneUnsigned: the walk.
-/
set_option linter.unusedSimpArgs false
set_option linter.unusedVariables false
set_option maxRecDepth 100000
namespace Go.Proofs.YtpbidmocchbbiaaDoor
open NQ Go NP Go.RowKit

set_option maxHeartbeats 1000000 in
theorem zoneUnsigned_fn (z : Zone) (s : Bs) : NQ.Fn cx 5 [.agg (zoneD z), .str s] (.d (.bool true)) [] := by
  refine fn_of_vcz (fun | 10 => [200] | _ => []) tyOk mixed Tryd.func5 (by kernel_rfl) rfl (Nat.le_of_ble_eq_true rfl) ?_
  conv => whnf
  (refine ⟨_, _, head_fn, ?_⟩; conv => whnf)
  (refine ⟨_, _, usable_fn z, ?_⟩; conv => whnf)
  (refine bcase_intro (fun h => ?_) (fun h => ?_) <;> (rw [h]; conv => whnf))
  · exact ret_data rfl rfl
  have hv : validZ z = true := by simp at h; exact h.2
  have ho := validZ_ordered hv
  have hfew := ho.few
  refine ⟨Nat, fun k => ⟨[(1, .d (.str s)), (2, .ptr 2 0), (5, .d (.bool true)), (6, .ptr 6 0), (32, .d (.slice 5 (z.sets.map signedD))), (33, .d (.int .i64 ((z.sets.map signedD).length : Int))), (34, .d (.int .i64 k))],
      [(2, .box ((zoneD z).map .d)), (6, .box [.d (.str z.apex), .own 200]), (200, .row 41 5 (((z.sets.take k).map unS).map signedD))]⟩,
    fun k => k ≤ z.sets.length, fun k => z.sets.length - k, ⟨0, by omega, (Weak.promoteBox 6 1 200 5 [.d (.str z.apex), .nil 5] 41 5 rfl rfl rfl (by decide)).trans (Weak.keep ⟨⟨rfl, rfl⟩, ⟨rfl, rfl⟩, ⟨rfl, rfl⟩, ⟨rfl, rfl⟩, ⟨rfl, rfl⟩, ⟨rfl, rfl⟩, ⟨rfl, rfl⟩, trivial⟩ ⟨⟨rfl, rfl⟩, ⟨rfl, rfl⟩, ⟨rfl, rfl⟩, trivial⟩)⟩, fun k hk => ?_⟩
  conv => whnf
  refine bcase_intro (fun h1 => ?_) (fun h1 => ?_) <;> (rw [h1]; conv => whnf)
  · have hlt : k < z.sets.length := by simp at h1; omega
    obtain ⟨x, hx⟩ : ∃ x, z.sets[k]? = some x := ⟨_, List.getElem?_eq_getElem hlt⟩
    refine ⟨Int.natCast_nonneg k, signedD x, map_get hx, ?_⟩
    conv => whnf
    refine ⟨by (show (((z.sets.take k).map unS).map signedD).length + 1 ≤ _; simp; omega), by (show ((((z.sets.take k).map unS).map signedD).length + 1) * 80 ≤ _; simp; omega), ?_⟩
    conv => whnf
    refine ⟨k + 1, hlt, by (show z.sets.length - (k + 1) < z.sets.length - k; omega), Weak.keep ⟨⟨rfl, rfl⟩, ⟨rfl, rfl⟩, ⟨rfl, rfl⟩, ⟨rfl, rfl⟩, ⟨rfl, rfl⟩, ⟨rfl, rfl⟩, ⟨wrap_succ (by omega), rfl⟩, trivial⟩ ⟨⟨rfl, rfl⟩, ⟨rfl, rfl⟩, ⟨?_, rfl⟩, trivial⟩⟩
    show some (Blk.row _ _ (_ ++ _)) = some (Blk.row _ _ _)
    rw [take_snoc hx, List.map_append, List.map_append]
    rfl
  · obtain rfl : k = z.sets.length := by simp at h1; omega
    have hU := un_valid hv
    have fN := names_fn z
    rw [namesR_ok hv] at fN
    have fN' := names_fn (unZ z)
    rw [un_names hv, namesR_ok hv] at fN'
    obtain ⟨⟨c, is, e⟩, hc⟩ : ∃ x, cutR z s = x := ⟨_, rfl⟩
    have fC := cut_fn z s
    have fC' := cut_fn (unZ z) s
    rw [un_cut hv] at fC'
    rw [hc] at fC fC'
    have fS := serial_fn z
    rw [serialR_ok hv] at fS
    have fS' := serial_fn (unZ z)
    rw [un_serial hv, serialR_ok hv] at fS'
    have fV := zvalid_fn (unZ z)
    rw [hU] at fV
    have hl := names_length z ho
    have fT := texts_fn (namesOf z) (namesOf z) (by omega) (by omega)
    rw [textsB_iff.2 rfl] at fT
    have hz : (zoneD (unZ z)) = [.str z.apex, .slice 5 (((z.sets.take z.sets.length).map unS).map signedD)] := by
      rw [List.take_length]; rfl
    rw [hz] at fN' fC' fS' fV
    clear hz
    have hcc : (c == c) = true := by simp
    have hii : (is == is) = true := by simp
    have hee : (e == e) = true := by simp
    have hss : (serialOf z == serialOf z) = true := by simp
    repeat' (first
      | (refine ⟨(by kernel_rfl : planOk _ _ = true), ?_⟩; conv => whnf)
      | (refine ⟨_, _, fN, ?_⟩; conv => whnf)
      | (refine ⟨_, _, fN', ?_⟩; conv => whnf)
      | (refine ⟨_, _, fC, ?_⟩; conv => whnf)
      | (refine ⟨_, _, fC', ?_⟩; conv => whnf)
      | (refine ⟨_, _, fS, ?_⟩; conv => whnf)
      | (refine ⟨_, _, fS', ?_⟩; conv => whnf)
      | (refine ⟨_, _, fV, ?_⟩; conv => whnf)
      | (refine ⟨_, _, fT, ?_⟩; conv => whnf)
      | (rw [hcc]; conv => whnf)
      | (rw [hii]; conv => whnf)
      | (rw [hee]; conv => whnf)
      | (rw [hss]; conv => whnf)
      | exact ret_data rfl rfl
      | fail)
end Go.Proofs.YtpbidmocchbbiaaDoor
