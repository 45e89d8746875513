/-
  Reference 01 on plain data: Label, Split, Parts, Glue, Join.
-/
import Derived.Test.YtmgacjioflnamaaGreatDoorMNh
import Derived.Test.YtmgacjioflnamaaGreatDoorMVa
import Derived.Test.YtmgacjioflnamaaGreatDoorMQr
set_option linter.unusedSimpArgs false
set_option linter.unusedVariables false
set_option maxRecDepth 100000
namespace NP
open NQ Go
theorem joinDot_snoc (x : Bs) : ∀ l : List Bs, l ≠ [] → joinDot (l ++ [x]) = joinDot l ++ 46 :: x
  | [], h => absurd rfl h
  | [y], _ => by simp [joinDot]
  | y :: z :: t, _ => by
    have := joinDot_snoc x (z :: t) (by simp)
    rw [List.cons_append, joinDot_cons _ _ (by simp), this, joinDot_cons y (z :: t) (by simp), List.append_assoc]
    rfl
theorem joinDot_len (m : Nat) : ∀ l : List Bs, (∀ x ∈ l, x.length ≤ m) → (joinDot l).length ≤ l.length * (m + 1)
  | [], _ => by simp [joinDot]
  | [y], h => by have := h y (by simp); simp [joinDot]; omega
  | y :: z :: t, h => by
    have h1 := h y (by simp)
    have h2 := joinDot_len m (z :: t) fun x hx => h x (List.mem_cons_of_mem _ hx)
    rw [joinDot_cons _ _ (by simp), List.length_append, List.length_cons, List.length_cons, Nat.add_mul]
    omega
theorem nameOf_ne {l : List Bs} (h : l ≠ []) : nameOf l = joinDot l := by unfold nameOf; rw [if_neg h]
theorem wrap_len {n : Nat} (h1 : 1 ≤ n) (h2 : n ≤ 4611686018427387904) : IntKind.i64.wrap ((n : Int) - 1) = ((n - 1 : Nat) : Int) := by
  rw [wrap_i64 (by omega) (by omega)]; omega
theorem strSlice {s : Bs} {k : Nat} {c : UInt8} (hk : s[k]? = some c) : ((s.drop ((k : Nat) : Int).toNat).take (((k : Int) + 1).toNat - ((k : Nat) : Int).toNat)) = [c] := by
  have hlt := (List.getElem?_eq_some_iff.1 hk).1
  rw [show ((k : Nat) : Int).toNat = k by simp, show ((k : Int) + 1).toNat - k = 1 by omega, List.drop_eq_getElem_cons hlt, (List.getElem?_eq_some_iff.1 hk).2]
  simp
end NP
namespace Go.Proofs.YtmgacjioflnamaaGreatDoor
open NQ Go NP Go.RowKit

theorem RLabel_fn (s : Bs) (hs : s.length ≤ 1000000) : NQ.Fn cx 102 [.str s] (.d (.bool (isLabel s))) [] := by
  refine fn_of_calls ⟨_, Tryz.func102, by kernel_rfl, by kernel_rfl⟩ rfl fun w vs _ hsz hrep => ?_
  obtain ⟨b, hb, rfl⟩ := rep_str (hrep 0 _ rfl)
  rw [vals1 hsz, hb]
  exact (Label_calls b (by have : (S b).length = b.size := S_size b; have hs' : (S b).length ≤ 1000000 := hs; omega) w).mono fun e w' ⟨he, hbel⟩ => ⟨_, he, hbel ▸ Below.refl _ _, .mkBool _⟩
theorem Split_fn (s : Bs) (hs : s.length ≤ 100000) : NQ.Fn cx 101 [.str s] (.d (.slice 1 ((splitDot s).map strD))) [] := by
  refine fn_of_vcz (fun _ => []) tyOk mixed Tryz.func101 (by kernel_rfl) rfl (Nat.le_of_ble_eq_true rfl) ?_
  conv => whnf
  refine ⟨Nat, fun k => ⟨[(0, .d (.str s)), (3, .own 5), (4, .d (.int .i64 k))], [(5, .row 9 1 ((splitDot (s.take k)).map strD))]⟩, fun k => k ≤ s.length, fun k => s.length - k,
    ⟨0, by omega, Weak.keep ⟨⟨rfl, rfl⟩, ⟨rfl, rfl⟩, ⟨rfl, rfl⟩, trivial⟩ ⟨⟨rfl, rfl⟩, trivial⟩⟩, fun k hk => ?_⟩
  conv => whnf
  refine bcase_intro (fun h1 => ?_) (fun h1 => ?_) <;> (rw [h1]; conv => whnf)
  · have hlt : k < s.length := by simp at h1; omega
    obtain ⟨c, hc⟩ : ∃ c, s[k]? = some c := ⟨_, List.getElem?_eq_getElem hlt⟩
    have hlen := splitDot_len (s.take k)
    rw [List.length_take] at hlen
    have hne := splitDot_ne (s.take k)
    have hpos : 1 ≤ (splitDot (s.take k)).length := by cases hx : splitDot (s.take k) with | nil => exact absurd hx hne | cons => simp
    refine ⟨Int.natCast_nonneg k, c, by simpa using hc, ?_⟩
    conv => whnf
    refine bcase_intro (fun hd => ?_) (fun hd => ?_) <;> (rw [hd]; conv => whnf)
    · have hc46 : c = 46 := UInt8.toNat_inj.1 (by simp at hd; exact Int.ofNat_inj.1 hd)
      refine ⟨by (show ((splitDot (s.take k)).map strD).length + 1 ≤ _; rw [List.length_map]; omega), by (show (((splitDot (s.take k)).map strD).length + 1) * 16 ≤ _; rw [List.length_map]; omega), ?_⟩
      conv => whnf
      refine ⟨k + 1, hlt, by (show s.length - (k + 1) < s.length - k; omega), Weak.keep ⟨⟨rfl, rfl⟩, ⟨rfl, rfl⟩, ⟨wrap_succ (by omega), rfl⟩, trivial⟩ ⟨⟨?_, rfl⟩, trivial⟩⟩
      rw [take_snoc hc, hc46, splitDot_dot, List.map_append]
      show some (Blk.row _ _ (_ ++ _)) = _
      rfl
    · have hc46 : c ≠ 46 := fun e => by subst e; simp at hd
      obtain ⟨p, x, hp1, hp2⟩ := splitDot_other (s.take k) c hc46
      rw [← take_snoc hc] at hp2
      have hl : (splitDot (s.take k)).length = p.length + 1 := by rw [hp1]; simp
      have hw : IntKind.i64.wrap ((((splitDot (s.take k)).map strD).length : Int) - 1) = ((p.length : Nat) : Int) := by
        rw [List.length_map, hl, wrap_len (by omega) (by omega)]; rfl
      have hxl : x.length ≤ s.length := by
        have := splitDot_piece (s.take k) x (by rw [hp1]; simp)
        rw [List.length_take] at this; omega
      have hget : ((splitDot (s.take k)).map strD)[p.length]? = some (strD x) := by rw [hp1]; simp
      (refine ⟨(by kernel_rfl : planOk _ _ = true), ?_⟩; conv => whnf)
      rw [hw]
      refine ⟨Int.natCast_nonneg _, by (rw [List.length_map, hl]; simp), ?_⟩
      conv => whnf
      refine ⟨strD x, hget, ?_⟩
      conv => whnf
      rw [wrap_i64 (n := (k : Int) + 1) (by omega) (by omega)]
      refine ⟨Int.natCast_nonneg _, by omega, by omega, ?_⟩
      conv => whnf
      rw [strSlice hc]
      refine ⟨by simp; omega, ?_⟩
      conv => whnf
      refine ⟨Int.natCast_nonneg _, by (rw [List.length_map, hl]; simp), ?_⟩
      conv => whnf
      refine ⟨strD x, hget, ?_⟩
      conv => whnf
      refine ⟨k + 1, hlt, by (show s.length - (k + 1) < s.length - k; omega), Weak.keep ⟨⟨rfl, rfl⟩, ⟨rfl, rfl⟩, ⟨wrap_succ (by omega), rfl⟩, trivial⟩ ⟨⟨?_, rfl⟩, trivial⟩⟩
      rw [hp2]
      have e : ((splitDot (s.take k)).map strD).set p.length (strD (x ++ [c])) = (p ++ [x ++ [c]]).map strD := by
        rw [hp1, List.map_append, List.set_append_right _ _ (by simp), List.length_map, Nat.sub_self, List.map_append]; rfl
      rw [← e]
      rfl
  · obtain rfl : k = s.length := by simp at h1; omega
    refine ret_data rfl ?_
    rw [List.take_length]; rfl
theorem Parts_fn (s : Bs) (hs : s.length ≤ 100000) : NQ.Fn cx 146 [.str s] (.d (.slice 1 ((labs s).map strD))) [] := by
  refine fn_of_vc tyOk mixed Tryz.func146 (by kernel_rfl) rfl (Nat.le_of_ble_eq_true rfl) ?_; conv => whnf
  (refine bcase_intro (fun h => ?_) (fun h => ?_) <;> (rw [h]; conv => whnf))
  · have e : s = [46] := by simpa using h
    refine ret_data rfl ?_
    unfold labs; rw [if_pos e]; rfl
  · have e : s ≠ [46] := by simpa using h
    (refine ⟨_, _, Split_fn s hs, ?_⟩; conv => whnf)
    refine ret_data rfl ?_
    unfold labs; rw [if_neg e]; rfl
theorem Glue_fn (l : List Bs) (hl : l.length ≤ 1000) (hs : ∀ x ∈ l, x.length ≤ 100000) : NQ.Fn cx 150 [.slice 1 (l.map strD)] (.d (.str (nameOf l))) [] := by
  refine fn_of_vc tyOk mixed Tryz.func150 (by kernel_rfl) rfl (Nat.le_of_ble_eq_true rfl) ?_; conv => whnf
  (refine bcase_intro (fun h => ?_) (fun h => ?_) <;> (rw [h]; conv => whnf))
  · have e : l = [] := by cases l with | nil => rfl | cons x t => (simp at h; omega)
    subst e
    exact ret_data rfl rfl
  · have e : l ≠ [] := fun e => by subst e; simp at h
    obtain ⟨x0, t, rfl⟩ : ∃ x t, l = x :: t := by cases l with | nil => exact absurd rfl e | cons x t => exact ⟨x, t, rfl⟩
    refine ⟨by decide, strD x0, rfl, ?_⟩
    conv => whnf
    refine ⟨Nat, fun k => ⟨[(0, .d (.slice 1 ((x0 :: t).map strD))), (3, .d (.str (joinDot ((x0 :: t).take k)))), (4, .d (.int .i64 k))], []⟩, fun k => 1 ≤ k ∧ k ≤ (x0 :: t).length, fun k => (x0 :: t).length - k,
      ⟨1, ⟨by omega, by simp⟩, Weak.keep ⟨⟨rfl, rfl⟩, ⟨rfl, rfl⟩, ⟨rfl, rfl⟩, trivial⟩ trivial⟩, fun k ⟨hk1, hk⟩ => ?_⟩
    conv => whnf
    refine bcase_intro (fun h1 => ?_) (fun h1 => ?_) <;> (rw [h1]; conv => whnf)
    · have hlt : k < (x0 :: t).length := by simp at h1 ⊢; omega
      obtain ⟨c, hc⟩ : ∃ c, (x0 :: t)[k]? = some c := ⟨_, List.getElem?_eq_getElem hlt⟩
      have hcl := hs c (List.mem_of_getElem? hc)
      have hjl := joinDot_len 100000 ((x0 :: t).take k) fun x hx => hs x (List.mem_of_mem_take hx)
      rw [List.length_take] at hjl
      have hjl2 : (joinDot ((x0 :: t).take k)).length ≤ 1000 * (100000 + 1) := Nat.le_trans hjl (Nat.mul_le_mul_right _ (Nat.le_trans (Nat.min_le_right _ _) hl))
      refine ⟨by (show (joinDot ((x0 :: t).take k)).length + 1 ≤ _; omega), ?_⟩
      conv => whnf
      refine ⟨Int.natCast_nonneg k, strD c, map_get hc, ?_⟩
      conv => whnf
      refine ⟨by (show (joinDot ((x0 :: t).take k) ++ [46]).length + c.length ≤ _; simp; omega), ?_⟩
      conv => whnf
      refine ⟨k + 1, ⟨by omega, hlt⟩, by (show (x0 :: t).length - (k + 1) < (x0 :: t).length - k; omega), Weak.keep ⟨⟨rfl, rfl⟩, ⟨?_, rfl⟩, ⟨wrap_succ (by omega), rfl⟩, trivial⟩ trivial⟩
      rw [take_snoc hc, joinDot_snoc c _ (by cases k with | zero => omega | succ k => simp)]
      show AV.d (D.str ((_ ++ [46]) ++ c)) = _
      simp
    · have hkk : k = (x0 :: t).length := by simp at h1 hk ⊢; omega
      refine ret_data rfl ?_
      rw [hkk, List.take_length, nameOf_ne (by simp)]; rfl
theorem RJoin_fn (l : List Bs) (hl : l.length ≤ 1000) (hs : ∀ x ∈ l, x.length ≤ 100000) : NQ.Fn cx 149 [.slice 1 (l.map strD)] (.tuple [.d (.str (joinR l).1), .d (.int .i64 (joinR l).2)]) [] := by
  refine fn_of_vc tyOk mixed Tryz.func149 (by kernel_rfl) rfl (Nat.le_of_ble_eq_true rfl) ?_; conv => whnf
  refine ⟨Nat, fun k => ⟨[(0, .d (.slice 1 (l.map strD))), (4, .d (.int .i64 k))], []⟩, fun k => k ≤ l.length ∧ rgood l k, fun k => l.length - k,
    ⟨0, ⟨by omega, rgood_zero l⟩, Weak.keep ⟨⟨rfl, rfl⟩, ⟨rfl, rfl⟩, trivial⟩ trivial⟩, fun k ⟨hk, hgood⟩ => ?_⟩
  conv => whnf
  refine bcase_intro (fun h1 => ?_) (fun h1 => ?_) <;> (rw [h1]; conv => whnf)
  · have hlt : k < l.length := by simp at h1; omega
    obtain ⟨c, hc⟩ : ∃ c, l[k]? = some c := ⟨_, List.getElem?_eq_getElem hlt⟩
    have hcl := hs c (List.mem_of_getElem? hc)
    have bad : isLabel c = false → ¬ (k = 0 ∧ c = [42]) → joinR l = ([], 11) := fun h2 h3 => by
      unfold joinR; rw [okL_bad hc h2 h3, if_neg (by simp)]
    have go : (isLabel c = true ∨ (k = 0 ∧ c = [42])) → ∀ st, Weak cx st ⟨[(0, .d (.slice 1 (l.map strD))), (4, .d (.int .i64 ((k + 1 : Nat) : Int)))], []⟩ → ∃ y : Nat, (y ≤ l.length ∧ rgood l y) ∧ l.length - y < l.length - k ∧ Weak cx st ⟨[(0, .d (.slice 1 (l.map strD))), (4, .d (.int .i64 y))], []⟩ :=
      fun hg st hw => ⟨k + 1, ⟨hlt, rgood_succ hgood hc hg⟩, by omega, hw⟩
    refine ⟨Int.natCast_nonneg k, strD c, map_get hc, ?_⟩
    conv => whnf
    (refine ⟨_, _, RLabel_fn c (by omega), ?_⟩; conv => whnf)
    refine bcase_intro (fun hlab => ?_) (fun hlab => ?_) <;> (rw [hlab]; conv => whnf)
    · have hlab : isLabel c = false := by simpa using hlab
      refine bcase_intro (fun hk0 => ?_) (fun hk0 => ?_) <;> (rw [hk0]; conv => whnf)
      · refine ret_data rfl ?_
        rw [bad hlab (fun e => by rw [e.1] at hk0; simp at hk0)]; rfl
      · have hk00 : k = 0 := by simp at hk0; omega
        refine ⟨Int.natCast_nonneg k, strD c, map_get hc, ?_⟩
        conv => whnf
        refine bcase_intro (fun hst => ?_) (fun hst => ?_) <;> (rw [hst]; conv => whnf)
        · refine ret_data rfl ?_
          rw [bad hlab (fun e => by rw [e.2] at hst; simp at hst)]; rfl
        · exact go (.inr ⟨hk00, by simpa using hst⟩) _ (Weak.keep ⟨⟨rfl, rfl⟩, ⟨wrap_succ (by omega), rfl⟩, trivial⟩ trivial)
    · exact go (.inl (by simpa using hlab)) _ (Weak.keep ⟨⟨rfl, rfl⟩, ⟨wrap_succ (by omega), rfl⟩, trivial⟩ trivial)
  · obtain rfl : k = l.length := by simp at h1; omega
    have hok := rgood_okL hgood
    (refine ⟨_, _, Glue_fn l hl hs, ?_⟩; conv => whnf)
    refine bcase_intro (fun h8 => ?_) (fun h8 => ?_) <;> (rw [h8]; conv => whnf)
    · refine ret_data rfl ?_
      have : joinR l = ([], 11) := by
        unfold joinR; rw [hok, if_neg]
        rintro ⟨h2, _⟩; simp at h8 h2; omega
      rw [this]; rfl
    · refine bcase_intro (fun h60 => ?_) (fun h60 => ?_) <;> (rw [h60]; conv => whnf)
      · refine ret_data rfl ?_
        have : joinR l = ([], 11) := by
          unfold joinR; rw [hok, if_neg]
          rintro ⟨_, h2⟩; simp at h60 h2; omega
        rw [this]; rfl
      · refine ret_data rfl ?_
        have : joinR l = (nameOf l, 0) := by
          unfold joinR; rw [hok, if_pos]
          simp at h8 h60 ⊢; omega
        rw [this]; rfl
end Go.Proofs.YtmgacjioflnamaaGreatDoor
