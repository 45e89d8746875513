/-
  Texts of the proof, merged in build order.
-/
import Derived.Test.YtnbnldnfkikakaaGreatDoorMVa
import Derived.Test.YtnbnldnfkikakaaGreatDoorTyM
import Derived.WalkKit
import Derived.Deep.LoopGhost
import Derived.Deep.RegionLaw
import Derived.Lib.Walk
import Derived.Lib.SliceRun
import Derived.Lib.SlicesDelete
import Derived.Shelf.RegionOpenPlain
import Derived.Lib.Hide
import Derived.Test.YtnbnldnfkikakaaGreatDoorQzM
import Derived.Test.YtnbnldnfkikakaaGreatDoorDdM
import Derived.Test.YtnbnldnfkikakaaGreatDoorMQt
set_option linter.all false
set_option maxRecDepth 100000
namespace NP
open NQ Go
def iZ : Signed := ⟨⟨[], 0, 0, []⟩, []⟩
def Small (s : Signed) : Prop := s.set.data.length <= 100000 /\ s.sigs.length <= 100000
theorem Hl {α : Type} {l : List α} {k n : Nat} {x z : α} (hk : l[k]? = some x) (hn : l.length = n) : (l.take k ++ List.replicate (n - k) z).set k x = l.take (k + 1) ++ List.replicate (n - (k + 1)) z := by
 have hlt : k < l.length := (List.getElem?_eq_some_iff.1 hk).1
 have h1 : (l.take k).length = k := by simp; omega
 rw [List.set_append_right _ _ (by omega), h1, Nat.sub_self, show n - k = (n - (k + 1)) + 1 by omega, List.replicate_succ, List.set_cons_zero, bF hk, List.append_assoc]
 rfl
def iz (z : aq) (q : ay) : Signed × Bool × Int :=
 if (!bc q || !aO z) = true then (iZ, false, 1) else if (!bo z.sets q) = true then (iZ, false, 0) else ((z.sets[posOf z.sets q]?).getD iZ, true, 0)
theorem mq {l : List Sig} {a : Bs} (h : cG l a = true) : l.length <= 6 := by
 simp [cG] at h; omega
theorem oX {s : gP} (h : cv s = true) : s.data.length <= 8 := by
 unfold cv at h; simp only [Bool.and_eq_true, Bool.not_eq_true', Bool.or_eq_false_iff, Bool.not_eq_false'] at h; have := h.1.1.2; simp [within] at this; omega
theorem gN {z : aq} (h : aO z = true) : ∀ s ∈ z.sets, Small s := fun s hs => by
 have ho := aW h
 refine ⟨by have := oX (ho.set s hs); omega, ?_⟩
 simp only [aO, Bool.and_eq_true] at h
 have hf := h.2.2
 simp only [kK, List.all_eq_true] at hf
 obtain ⟨i, hi, rfl⟩ := List.getElem_of_mem hs
 have := hf i (List.mem_range.2 hi)
 simp only [jd, List.getElem?_eq_getElem hi] at this
 have := mq this
 omega
end NP
namespace Go.Proofs.YtnbnldnfkikakaaGreatDoor
open NQ Go NP Go.RowKit
theorem pD (rows : List (List D)) (hl : rows.length <= 100000) : NQ.Fn cx 132 [.slice 3 rows] (.d (.slice 3 rows)) [] := by
 refine ao az mixed Tryz.func132 (by kernel_rfl) rfl (Nat.le_of_ble_eq_true rfl) ?_; conv => whnf
 refine ⟨fun h => ?_, ?_⟩
 . refine ae rfl ?_
   rw [List.isEmpty_iff.1 h]; rfl
 . conv => whnf
   refine ⟨by (show 0 + rows.length <= _; omega), by (show (0 + rows.length) * 32 <= _; omega), ?_⟩
   conv => whnf
   exact ae rfl rfl
theorem pE (rows : List (List D)) (hl : rows.length <= 100000) : NQ.Fn cx 133 [.slice 6 rows] (.d (.slice 6 rows)) [] := by
 refine ao az mixed Tryz.func133 (by kernel_rfl) rfl (Nat.le_of_ble_eq_true rfl) ?_; conv => whnf
 refine ⟨fun h => ?_, ?_⟩
 . refine ae rfl ?_
   rw [List.isEmpty_iff.1 h]; rfl
 . conv => whnf
   refine ⟨by (show 0 + rows.length <= _; omega), by (show (0 + rows.length) * 56 <= _; omega), ?_⟩
   conv => whnf
   exact ae rfl rfl
theorem oA (s : Signed) (h1 : s.set.data.length <= 100000) (h2 : s.sigs.length <= 100000) : NQ.Fn cx 80 [.agg (aj s)] (.agg ((aj s).map .d)) [] := by
 refine ao az mixed Tryz.func80 (by kernel_rfl) rfl (Nat.le_of_ble_eq_true rfl) ?_; conv => whnf
 (refine ⟨_, _, pD _ (by simpa using h1), ?_⟩; conv => whnf)
 (refine ⟨_, _, pE _ (by simpa using h2), ?_⟩; conv => whnf)
 exact ae rfl rfl
theorem pF (z : aq) (hn : z.sets.length <= 100000) (hs : ∀ s ∈ z.sets, Small s) :
 NQ.Fn cx 84 [.agg (aL z)] (.agg [.d (.str z.apex), .own 9]) [(9, .row 63 5 (z.sets.map aj) true)] := by
 refine ao az mixed Tryz.func84 (by kernel_rfl) rfl (Nat.le_of_ble_eq_true rfl) ?_; conv => whnf
 refine ⟨by omega, .inl rfl, by omega, by (simp only [List.length_map]; omega), by (simp only [List.length_map]; omega), ?_⟩
 conv => whnf
 refine ⟨Nat, fun k => ⟨[(1, .ptr 1 0), (2, .ptr 2 0), (3, .own 9), (11, .d (.slice 5 (z.sets.map aj))), (12, .d (.int .i64 ((z.sets.map aj).length : Int))), (13, .d (.int .i64 k))],
     [(1, .box ((aL z).map .d)), (2, .box [.d (.str []), .nil 5]), (9, .row 63 5 ((z.sets.take k ++ List.replicate (z.sets.length - k) iZ).map aj) true)]⟩,
  fun k => k <= z.sets.length, fun k => z.sets.length - k, ⟨0, by omega, ai.keep ⟨⟨rfl, rfl⟩, ⟨rfl, rfl⟩, ⟨rfl, rfl⟩, ⟨rfl, rfl⟩, ⟨rfl, rfl⟩, ⟨rfl, rfl⟩, trivial⟩ ⟨⟨rfl, rfl⟩, ⟨rfl, rfl⟩, ⟨by (show some (Blk.row _ _ (List.replicate ((z.sets.map aj).length : Int).toNat _) true) = some (Blk.row _ _ _ true); simp [aj, iZ]; done), rfl⟩, trivial⟩⟩, fun k hk => ?_⟩
 conv => whnf
 refine ab (fun h1 => ?_) (fun h1 => ?_) <;> (rw [h1]; conv => whnf)
 . have hlt : k < z.sets.length := by simp at h1; omega
   obtain ⟨s, hsk⟩ : ∃ s, z.sets[k]? = some s := ⟨_, List.getElem?_eq_getElem hlt⟩
   refine ⟨Int.natCast_nonneg k, aj s, ax hsk, ?_⟩
   conv => whnf
   have hsm := hs s (List.mem_of_getElem? hsk)
   (refine ⟨_, _, oA s hsm.1 hsm.2, ?_⟩; conv => whnf)
   refine ⟨Int.natCast_nonneg k, by (simp; omega), ?_⟩
   conv => whnf
   have hrk : ((z.sets.take k ++ List.replicate (z.sets.length - k) iZ).map aj)[k]? = some (aj iZ) := by
    rw [List.getElem?_map, List.getElem?_append_right (by simp; omega), List.getElem?_replicate, if_pos (by simp; omega)]; rfl
   refine ⟨_, hrk, ?_⟩
   conv => whnf
   refine ⟨k + 1, hlt, by (show z.sets.length - (k + 1) < z.sets.length - k; omega), ai.keep ⟨⟨rfl, rfl⟩, ⟨rfl, rfl⟩, ⟨rfl, rfl⟩, ⟨rfl, rfl⟩, ⟨rfl, rfl⟩, ⟨ak (by omega), rfl⟩, trivial⟩ ⟨⟨rfl, rfl⟩, ⟨rfl, rfl⟩, ⟨?_, rfl⟩, trivial⟩⟩
   show some (Blk.row _ _ (List.set _ k (aj s)) true) = some (Blk.row _ _ _ true)
   rw [<- List.map_set, Hl hsk rfl]
 . obtain rfl : k = z.sets.length := by simp at h1; omega
   refine sL rfl rfl ⟨⟨?_, rfl⟩, trivial⟩
   show some (Blk.row _ _ _ true) = some (Blk.row _ _ _ true)
   rw [List.take_length, Nat.sub_self, List.replicate_zero, List.append_nil]
theorem Jm (z : aq) (q : ay) : NQ.Fn cx 31 [.agg (aL z), .agg (bE q)] (.tuple [.agg ((aj (iz z q).1).map .d), .d (.bool (iz z q).2.1), .d (.int .i64 (iz z q).2.2)]) [] := by
 refine ao az mixed Tryz.func31 (by kernel_rfl) rfl (Nat.le_of_ble_eq_true rfl) ?_; conv => whnf
 (refine ⟨_, _, Dc q, ?_⟩; conv => whnf)
 have bad : (!bc q || !aO z) = true -> iz z q = (iZ, false, 1) := fun h => by rw [iz, if_pos h]
 (refine ab (fun h => ?_) (fun h => ?_) <;> (rw [h]; conv => whnf))
 . refine ae rfl ?_; rw [bad (by simp [h])]; rfl
 have hq0 := h
 (refine ⟨_, _, lv z, ?_⟩; conv => whnf)
 (refine ab (fun h => ?_) (fun h => ?_) <;> (rw [h]; conv => whnf))
 . refine ae rfl ?_; rw [bad (by simp [h])]; rfl
 have hq : bc q = true := by simpa using hq0
 have hv : aO z = true := by simpa using h
 have hqn : ah q.name = true := by simp [bc] at hq; exact hq.1.1
 have ho := aW hv
 (refine ⟨_, _, nT ho q hqn, ?_⟩; conv => whnf)
 (refine ab (fun h => ?_) (fun h => ?_) <;> (rw [h]; conv => whnf))
 . refine ae rfl ?_; rw [iz, if_neg (by simp [hq, hv]), if_pos (by assumption)]; rfl
 have hh := h
 obtain ⟨s, hs, hm, _⟩ := oI ho hqn (by simpa using hh)
 refine ⟨Int.natCast_nonneg _, aj s, ax hs, ?_⟩
 conv => whnf
 have hsm := gN hv s hm
 (refine ⟨_, _, oA s hsm.1 hsm.2, ?_⟩; conv => whnf)
 refine ae rfl ?_
 rw [iz, if_neg (by simp [hq, hv]), if_neg (by simpa using hh), hs]; rfl
end Go.Proofs.YtnbnldnfkikakaaGreatDoor

set_option maxRecDepth 100000
namespace NP
open NQ Go
def dM : aq := ⟨[], []⟩
def qOf (s : Signed) : ay := ⟨s.set.name, s.set.type⟩
def oJ (l : List Signed) (i : Nat) (s : Signed) : List Signed := l.take i ++ [s] ++ l.drop i
def jm (l : List Signed) (s : Signed) : List Signed := if bo l (qOf s) = true then l.set (posOf l (qOf s)) s else oJ l (posOf l (qOf s)) s
def bp (z : aq) (s : Signed) : aq := ⟨z.apex, jm z.sets s⟩
def kz (z : aq) (s : Signed) : aq × Int :=
 if (!cv s.set || !aO z) = true then (dM, 1)
 else if (!cG s.sigs z.apex) = true then (dM, 30)
 else if (!(aD s.set.name z.apex).1) = true then (dM, 20)
 else if (!fits s.set.type (s.set.name == z.apex)) = true then (dM, 22)
 else if (!bo z.sets (qOf s) && decide ((z.sets.length : Int) >= 20000)) = true then (dM, 2)
 else if (!aliases (bp z s)) = true then (dM, 21)
 else if (!fp (bp z s) (aR (bp z s))) = true then (dM, 20)
 else if (!gq (bp z s) (aR (bp z s))) = true then (dM, 30)
 else (bp z s, 0)
end NP
namespace Go.Proofs.YtnbnldnfkikakaaGreatDoor
open NQ Go NP Go.RowKit
set_option maxHeartbeats 4000000 in
theorem Jt (z : aq) (s : Signed) : NQ.Fn cx 32 [.agg (aL z), .agg (aj s)] (.tuple [.agg ((aL (kz z s).1).map .d), .d (.int .i64 (kz z s).2)]) [] := by
 refine de (fun | 18 => [9] | 23 => [99999] | _ => []) az mixed Tryz.func32 (by kernel_rfl) rfl (Nat.le_of_ble_eq_true rfl) ?_
 conv => whnf
 (refine ⟨_, _, nK s.set, ?_⟩; conv => whnf)
 have bad : (!cv s.set || !aO z) = true -> kz z s = (dM, 1) := fun h => by rw [kz, if_pos h]
 (refine ab (fun h => ?_) (fun h => ?_) <;> (rw [h]; conv => whnf))
 . refine ae rfl ?_; rw [bad (by simp [h])]; rfl
 have hq0 := h
 (refine ⟨_, _, lv z, ?_⟩; conv => whnf)
 (refine ab (fun h => ?_) (fun h => ?_) <;> (rw [h]; conv => whnf))
 . refine ae rfl ?_; rw [bad (by simp [h])]; rfl
 have hset : cv s.set = true := by simpa using hq0
 have hv : aO z = true := by simpa using h
 have hqn : ah s.set.name = true := fe hset
 have ho := aW hv
 have hfew := ho.few
 have c1 : ¬ (!cv s.set || !aO z) = true := by simp [hset, hv]
 (refine ⟨_, _, vl s.sigs z.apex, ?_⟩; conv => whnf)
 (refine ab (fun h => ?_) (fun h => ?_) <;> (rw [h]; conv => whnf))
 . refine ae rfl ?_; rw [kz, if_neg c1, if_pos h]; rfl
 have hform : cG s.sigs z.apex = true := by simpa using h
 have c2 : ¬ (!cG s.sigs z.apex) = true := by simp [hform]
 (refine ⟨_, _, j7 s.set.name z.apex, ?_⟩; conv => whnf)
 (refine ab (fun h => ?_) (fun h => ?_) <;> (rw [h]; conv => whnf))
 . refine ae rfl ?_; rw [kz, if_neg c1, if_neg c2, if_pos h]; rfl
 have c3 : ¬ (!(aD s.set.name z.apex).1) = true := by rw [h]; simp
 (refine ⟨_, _, rD s.set.type (s.set.name == z.apex), ?_⟩; conv => whnf)
 (refine ab (fun h => ?_) (fun h => ?_) <;> (rw [h]; conv => whnf))
 . refine ae rfl ?_; rw [kz, if_neg c1, if_neg c2, if_neg c3, if_pos h]; rfl
 have c4 : ¬ (!fits s.set.type (s.set.name == z.apex)) = true := by rw [h]; simp
 (refine ⟨_, _, nT ho (qOf s) hqn, ?_⟩; conv => whnf)
 have h4 : (!bo z.sets (qOf s) && decide ((z.sets.length : Int) >= 20000)) = true -> kz z s = (dM, 2) := fun h => by rw [kz, if_neg c1, if_neg c2, if_neg c3, if_neg c4, if_pos h]
 have cont : (!bo z.sets (qOf s) && decide ((z.sets.length : Int) >= 20000)) = false -> kz z s = if (!aliases (bp z s)) = true then (dM, 21) else if (!fp (bp z s) (aR (bp z s))) = true then (dM, 20)
  else if (!gq (bp z s) (aR (bp z s))) = true then (dM, 30) else (bp z s, 0) := fun h => by rw [kz, if_neg c1, if_neg c2, if_neg c3, if_neg c4, if_neg (by simp [h])]
 obtain ⟨hsp, hfd⟩ := o6 (qOf s) hqn z.sets ho.rising ho.name
 have hpos : posOf z.sets (qOf s) <= z.sets.length := hsp.1
 have hsm : Small s := ⟨by have := oX hset; omega, by have := mq hform; omega⟩
 have hpl : (bp z s).sets.length <= 100000 := by
  simp only [bp, jm]; split <;> simp [oJ] <;> omega
 have hbl : (aR (bp z s)).length = (bp z s).sets.length := mR _ _ _
 obtain ⟨fd, hfd0⟩ : ∃ fd, bo z.sets (qOf s) = fd := ⟨_, rfl⟩
 rw [hfd0] at h4 cont ⊢
 have hset : (bp z s).sets = jm z.sets s := rfl
 cases fd with
 | false =>
  have hput : jm z.sets s = oJ z.sets (posOf z.sets (qOf s)) s := by rw [jm, if_neg (by simp [hfd0])]
  conv => whnf
  (refine ab (fun h => ?_) (fun h => ?_) <;> (rw [h]; conv => whnf))
  . refine ae rfl ?_; rw [h4 (by (simp only [List.length_map] at h; simp [h]))]; rfl
  have c5 : (!false && decide ((z.sets.length : Int) >= 20000)) = false := by simp only [List.length_map] at h; simp [h]
  have cont := cont c5
  (refine ⟨_, _, pF z (by omega) (gN hv), ?_⟩; conv => whnf)
  (refine ⟨(by kernel_rfl : aH _ _ = true), ?_⟩; conv => whnf)
  (refine ⟨_, _, oA s hsm.1 hsm.2, ?_⟩; conv => whnf)
  have hins : DQ cx 85 true 63 5 (z.sets.map aj) true [.int .i64 (posOf z.sets (qOf s) : Nat), .slice 5 [aj s]] ((bp z s).sets.map aj) := by
   have := Bb (z.sets.map aj) (posOf z.sets (qOf s)) (aj s) (by simpa using hpos) (by simp; omega)
   rw [hset, hput, oJ, List.map_append, List.map_append, List.map_take, List.map_drop]
   exact this
  refine ⟨_, zT hins, ?_⟩
  conv => whnf
  (refine ⟨_, _, xU (bp z s) hpl, ?_⟩; conv => whnf)
  (refine ⟨Nat, fun k => ⟨[(4, .ptr 4 0), (10, .ptr 10 0), (12, .ptr 12 0), (105, .own 102), (106, .d (.int .i64 3)), (107, .d (.int .i64 k))], [(4, .box [.d (.str []), .nil 5]), (10, .box ((aL (bp z s)).map .d)), (12, .box ((lC (bp z s) (aR (bp z s))).map .d)), (102, .row 129 2 [[.fn 86 [] [], .int .i64 21], [.fn 87 [] [], .int .i64 20], [.fn 88 [] [], .int .i64 30]])]⟩,
   fun k => k <= 3 /\ (1 <= k -> aliases (bp z s) = true) /\ (2 <= k -> fp (bp z s) (aR (bp z s)) = true) /\ (3 <= k -> gq (bp z s) (aR (bp z s)) = true), fun k => 3 - k,
   ⟨0, ⟨by omega, fun h => by omega, fun h => by omega, fun h => by omega⟩, ai.keep ⟨⟨rfl, rfl⟩, ⟨rfl, rfl⟩, ⟨rfl, rfl⟩, ⟨rfl, rfl⟩, ⟨rfl, rfl⟩, ⟨rfl, rfl⟩, trivial⟩ ⟨⟨rfl, rfl⟩, ⟨rfl, rfl⟩, ⟨rfl, rfl⟩, ⟨rfl, rfl⟩, trivial⟩⟩, ?_⟩
   rintro k ⟨hk, a1, a2, a3⟩
   rcases k with _ | _ | _ | _ | k
   all_goals conv => whnf)
  all_goals repeat' (first
   | (exact absurd hk (by omega))
   | (refine ⟨by decide, by decide, ?_⟩; conv => whnf)
   | (refine ⟨_, rfl, ?_⟩; conv => whnf)
   | (refine ⟨_, _, j9 (bp z s) _ hpl, ?_⟩; conv => whnf)
   | (refine ⟨_, _, nz (bp z s) _ hpl hbl, ?_⟩; conv => whnf)
   | (refine ⟨_, _, nL (bp z s) _ hpl hbl, ?_⟩; conv => whnf)
   | (refine ⟨(by kernel_rfl : aH _ _ = true), ?_⟩; conv => whnf)
   | (refine ab (fun h => ?_) (fun h => ?_) <;> (rw [h]; conv => whnf))
   | (refine ⟨0 + 1, ⟨by omega, fun _ => by simpa using h, fun h => by omega, fun h => by omega⟩, by decide, ai.keep ⟨⟨rfl, rfl⟩, ⟨rfl, rfl⟩, ⟨rfl, rfl⟩, ⟨rfl, rfl⟩, ⟨rfl, rfl⟩, ⟨rfl, rfl⟩, trivial⟩ ⟨⟨rfl, rfl⟩, ⟨rfl, rfl⟩, ⟨rfl, rfl⟩, ⟨rfl, rfl⟩, trivial⟩⟩; done)
   | (refine ⟨0 + 1 + 1, ⟨by omega, fun _ => a1 (by omega), fun _ => by simpa using h, fun h => by omega⟩, by decide, ai.keep ⟨⟨rfl, rfl⟩, ⟨rfl, rfl⟩, ⟨rfl, rfl⟩, ⟨rfl, rfl⟩, ⟨rfl, rfl⟩, ⟨rfl, rfl⟩, trivial⟩ ⟨⟨rfl, rfl⟩, ⟨rfl, rfl⟩, ⟨rfl, rfl⟩, ⟨rfl, rfl⟩, trivial⟩⟩; done)
   | (refine ⟨0 + 1 + 1 + 1, ⟨by omega, fun _ => a1 (by omega), fun _ => a2 (by omega), fun _ => by simpa using h⟩, by decide, ai.keep ⟨⟨rfl, rfl⟩, ⟨rfl, rfl⟩, ⟨rfl, rfl⟩, ⟨rfl, rfl⟩, ⟨rfl, rfl⟩, ⟨rfl, rfl⟩, trivial⟩ ⟨⟨rfl, rfl⟩, ⟨rfl, rfl⟩, ⟨rfl, rfl⟩, ⟨rfl, rfl⟩, trivial⟩⟩; done)
   | (refine ae rfl ?_; rw [cont, if_neg (by simp [a1 (by omega)]), if_neg (by simp [a2 (by omega)]), if_neg (by simp [a3 (by omega)])]; rfl)
   | (refine ae rfl ?_; rw [cont, if_neg (by simp [a1 (by omega)]), if_neg (by simp [a2 (by omega)]), if_pos (by assumption)]; rfl)
   | (refine ae rfl ?_; rw [cont, if_neg (by simp [a1 (by omega)]), if_pos (by assumption)]; rfl)
   | (refine ae rfl ?_; rw [cont, if_pos (by assumption)]; rfl)
   | (refine And.intro ?_ ?_ <;> (conv => whnf))
   | fail)
 | true =>
  have hput : jm z.sets s = z.sets.set (posOf z.sets (qOf s)) s := by rw [jm, if_pos hfd0]
  have cont := cont (by simp)
  obtain ⟨s0, hs0, _, _⟩ := oI ho hqn hfd0
  conv => whnf
  (refine ⟨_, _, pF z (by omega) (gN hv), ?_⟩; conv => whnf)
  (refine ⟨(by kernel_rfl : aH _ _ = true), ?_⟩; conv => whnf)
  (refine ⟨_, _, oA s hsm.1 hsm.2, ?_⟩; conv => whnf)
  refine ⟨Int.natCast_nonneg _, by (have := (List.getElem?_eq_some_iff.1 hs0).1; simpa using this), ?_⟩
  conv => whnf
  refine ⟨_, ax hs0, ?_⟩
  conv => whnf
  have hlay : NQ.Fn cx 89 [.agg [.str z.apex, .slice 5 ((z.sets.map aj).set (posOf z.sets (qOf s)) (aj s))]] (.agg ((lC (bp z s) (aR (bp z s))).map .d)) [] := by
   have := xU (bp z s) hpl
   rw [<- List.map_set, <- hput]; exact this
  (refine ⟨_, _, hlay, ?_⟩; conv => whnf)
  (refine ⟨Nat, fun k => ⟨[(4, .ptr 4 0), (10, .ptr 10 0), (12, .ptr 12 0), (105, .own 102), (106, .d (.int .i64 3)), (107, .d (.int .i64 k))], [(4, .box [.d (.str []), .nil 5]), (10, .box ((aL (bp z s)).map .d)), (12, .box ((lC (bp z s) (aR (bp z s))).map .d)), (102, .row 129 2 [[.fn 86 [] [], .int .i64 21], [.fn 87 [] [], .int .i64 20], [.fn 88 [] [], .int .i64 30]])]⟩,
   fun k => k <= 3 /\ (1 <= k -> aliases (bp z s) = true) /\ (2 <= k -> fp (bp z s) (aR (bp z s)) = true) /\ (3 <= k -> gq (bp z s) (aR (bp z s)) = true), fun k => 3 - k,
   ⟨0, ⟨by omega, fun h => by omega, fun h => by omega, fun h => by omega⟩, ai.keep ⟨⟨rfl, rfl⟩, ⟨rfl, rfl⟩, ⟨rfl, rfl⟩, ⟨rfl, rfl⟩, ⟨rfl, rfl⟩, ⟨rfl, rfl⟩, trivial⟩ ⟨⟨rfl, rfl⟩, ⟨by (show some (Blk.box [AV.d (D.str z.apex), AV.d (D.slice 5 ((z.sets.map aj).set (posOf z.sets (qOf s)) (aj s)))]) = _; rw [<- List.map_set, <- hput]; rfl), rfl⟩, ⟨rfl, rfl⟩, ⟨rfl, rfl⟩, trivial⟩⟩, ?_⟩
   rintro k ⟨hk, a1, a2, a3⟩
   rcases k with _ | _ | _ | _ | k
   all_goals conv => whnf)
  all_goals repeat' (first
   | (exact absurd hk (by omega))
   | (refine ⟨by decide, by decide, ?_⟩; conv => whnf)
   | (refine ⟨_, rfl, ?_⟩; conv => whnf)
   | (refine ⟨_, _, j9 (bp z s) _ hpl, ?_⟩; conv => whnf)
   | (refine ⟨_, _, nz (bp z s) _ hpl hbl, ?_⟩; conv => whnf)
   | (refine ⟨_, _, nL (bp z s) _ hpl hbl, ?_⟩; conv => whnf)
   | (refine ⟨(by kernel_rfl : aH _ _ = true), ?_⟩; conv => whnf)
   | (refine ab (fun h => ?_) (fun h => ?_) <;> (rw [h]; conv => whnf))
   | (refine ⟨0 + 1, ⟨by omega, fun _ => by simpa using h, fun h => by omega, fun h => by omega⟩, by decide, ai.keep ⟨⟨rfl, rfl⟩, ⟨rfl, rfl⟩, ⟨rfl, rfl⟩, ⟨rfl, rfl⟩, ⟨rfl, rfl⟩, ⟨rfl, rfl⟩, trivial⟩ ⟨⟨rfl, rfl⟩, ⟨rfl, rfl⟩, ⟨rfl, rfl⟩, ⟨rfl, rfl⟩, trivial⟩⟩; done)
   | (refine ⟨0 + 1 + 1, ⟨by omega, fun _ => a1 (by omega), fun _ => by simpa using h, fun h => by omega⟩, by decide, ai.keep ⟨⟨rfl, rfl⟩, ⟨rfl, rfl⟩, ⟨rfl, rfl⟩, ⟨rfl, rfl⟩, ⟨rfl, rfl⟩, ⟨rfl, rfl⟩, trivial⟩ ⟨⟨rfl, rfl⟩, ⟨rfl, rfl⟩, ⟨rfl, rfl⟩, ⟨rfl, rfl⟩, trivial⟩⟩; done)
   | (refine ⟨0 + 1 + 1 + 1, ⟨by omega, fun _ => a1 (by omega), fun _ => a2 (by omega), fun _ => by simpa using h⟩, by decide, ai.keep ⟨⟨rfl, rfl⟩, ⟨rfl, rfl⟩, ⟨rfl, rfl⟩, ⟨rfl, rfl⟩, ⟨rfl, rfl⟩, ⟨rfl, rfl⟩, trivial⟩ ⟨⟨rfl, rfl⟩, ⟨rfl, rfl⟩, ⟨rfl, rfl⟩, ⟨rfl, rfl⟩, trivial⟩⟩; done)
   | (refine ae rfl ?_; rw [cont, if_neg (by simp [a1 (by omega)]), if_neg (by simp [a2 (by omega)]), if_neg (by simp [a3 (by omega)])]; rfl)
   | (refine ae rfl ?_; rw [cont, if_neg (by simp [a1 (by omega)]), if_neg (by simp [a2 (by omega)]), if_pos (by assumption)]; rfl)
   | (refine ae rfl ?_; rw [cont, if_neg (by simp [a1 (by omega)]), if_pos (by assumption)]; rfl)
   | (refine ae rfl ?_; rw [cont, if_pos (by assumption)]; rfl)
   | (refine And.intro ?_ ?_ <;> (conv => whnf))
   | fail)
end Go.Proofs.YtnbnldnfkikakaaGreatDoor

set_option maxRecDepth 100000
namespace NP
open NQ Go
theorem z6 {s : Bs} (h : ah s = true) : (aK s).length <= 8 := by
 have := lp h
 simp [okL] at this
 exact this.1
theorem jX {s : Bs} (h : ah s = true) : s ≠ [] := by rintro rfl; revert h; decide
end NP

set_option maxRecDepth 100000
namespace NP
open NQ Go
theorem uY {z : aq} {i : Nat} {s : Signed} (h : z.sets[i]? = some s) (ho : Ordered z) : (aR z)[i]? = some (spec (aT z) s.set.name) := by
 rw [<- pB ho, pA ho, List.getElem?_map, h]; rfl
theorem Es {z : aq} (hv : aO z = true) {s : Signed} (hs : s ∈ z.sets) : gY s (spec (aT z) s.set.name) = false := by
 have ho := aW hv
 obtain ⟨i, hi⟩ := List.getElem?_of_mem hs
 simp only [aO, Bool.and_eq_true] at hv
 have hc := hv.2.1.1.2
 simp only [fp, List.all_eq_true] at hc
 have := hc i (List.mem_range.2 (List.getElem?_eq_some_iff.1 hi).1)
 simp only [cutAt, hi, uY hi ho] at this
 simpa using this
theorem fO (apex c : Bs) : ∀ (l : List Signed), c ∈ bq apex l ↔ ∃ s ∈ l, cd apex s = true /\ s.set.name = c
 | [] => by simp [bq]
 | s :: t => by
  have ih := fO apex c t
  unfold bq
  split
  . rename_i h
    rw [List.mem_cons, ih]
    constructor
    . rintro (rfl | ⟨x, hx, k⟩)
      . exact ⟨s, List.mem_cons_self .., h, rfl⟩
      . exact ⟨x, List.mem_cons_of_mem _ hx, k⟩
    . rintro ⟨x, hx, k1, k2⟩
      rcases List.mem_cons.1 hx with rfl | hx
      . exact .inl k2.symm
      . exact .inr ⟨x, hx, k1, k2⟩
  . rename_i h
    rw [ih]
    constructor
    . rintro ⟨x, hx, k⟩; exact ⟨x, List.mem_cons_of_mem _ hx, k⟩
    . rintro ⟨x, hx, k1, k2⟩
      rcases List.mem_cons.1 hx with rfl | hx
      . exact absurd k1 h
      . exact ⟨x, hx, k1, k2⟩
theorem DK {s : Bs} (h : ah s = true) : (s == []) = false := by have := jX h; simpa using this
theorem xg {z : aq} (hv : aO z = true) {c : Bs} (hc : c ∈ bq z.apex z.sets) : c ∈ aT z := by
 have ho := aW hv
 obtain ⟨hA, ha, hcov⟩ := iC ho
 obtain ⟨s, hs, hcut, rfl⟩ := (fO _ _ _).1 hc
 obtain ⟨g, hg, hu⟩ := hcov _ hc
 have hsp := jE hA ha hg hu
 have hr := Es hv hs
 rw [hsp] at hr
 have ht : s.set.type = 2 := by simp [cd] at hcut; exact hcut.1
 unfold gY at hr
 rw [if_neg (by rw [DK (lK ho hg)]; exact Bool.false_ne_true)] at hr
 split at hr
 . rename_i e; rw [<- beq_iff_eq.1 e]; exact hg
 . rw [ht] at hr; cases hr
theorem zV {z : aq} {n : Bs} (hne : n ≠ z.apex) : bo z.sets ⟨n, 2⟩ = true ↔ n ∈ bq z.apex z.sets := by
 rw [fO]
 simp only [bo, List.any_eq_true, is, Bool.and_eq_true, beq_iff_eq, cd, Bool.not_eq_true', beq_eq_false_iff_ne]
 constructor
 . rintro ⟨s, hs, h1, h2⟩; exact ⟨s, hs, ⟨h2, by rw [h1]; exact hne⟩, h1⟩
 . rintro ⟨s, hs, ⟨h1, _⟩, h2⟩; exact ⟨s, hs, h2, h1⟩
theorem nN {a b c : Bs} (h : ar a b = true) (k : ar b c = true) : ar a c = true := by
 rw [cw] at *; exact k.trans h
theorem o9 {a b : Bs} (h : ar a b = true) (k : ar b a = true) : a = b := by
 rw [cw] at *
 exact ou ((k.eq_of_length (Nat.le_antisymm k.length_le h.length_le)))
theorem yF {n c : Bs} (hn : ah n = true) (h : ar n c = true) (hne : n ≠ c) : ar (cm n) c = true := (pa hn h hne).2.1
theorem yc {n : Bs} (hn : ah n = true) : ar n (cm n) = true := by
 unfold ar; rw [rI hn]; exact List.isSuffixOf_iff_suffix.2 (List.tail_suffix _)
theorem oE {z : aq} : ∀ {f : Nat} {n c : Bs}, ah n = true -> kI z f n = some c -> c ∈ bq z.apex z.sets /\ ar n c = true
 | 0, n, c, _, h => by simp [kI] at h
 | f + 1, n, c, hv, h => by
  unfold kI at h
  split at h
  . cases h
  . rename_i hne
    split at h
    . rename_i hh; cases h; exact ⟨(zV hne).1 hh, dU n⟩
    . obtain ⟨h1, h2⟩ := oE (jT hv) h
      exact ⟨h1, nN (yc hv) h2⟩
theorem tq {z : aq} (ho : Ordered z) : ∀ {f : Nat} {n : Bs}, ah n = true -> ar n z.apex = true -> f = (aK n).length + 1 -> kI z f n = none -> ∀ c ∈ bq z.apex z.sets, ar n c = false
 | 0, n, _, _, hf, _ => by omega
 | f + 1, n, hv, hu, hf, h => by
  intro c hc
  obtain ⟨s, hs, hcut, hnm⟩ := (fO _ _ _).1 hc
  have hca : ar c z.apex = true := by
   have := ho.under s hs
   unfold aD at this; rw [if_pos ⟨ho.name s hs, ho.apex⟩] at this; rw [<- hnm]; exact this
  have hne' : c ≠ z.apex := by simp [cd] at hcut; rw [<- hnm]; exact hcut.2
  unfold kI at h
  split at h
  . rename_i e
    cases hun : ar n c with
    | false => rfl
    | true => rw [e] at hun; exact absurd (o9 hca hun) hne'
  . rename_i hne
    split at h
    . cases h
    . rename_i hh
      obtain ⟨_, k2, k3⟩ := pa hv hu hne
      have ih := tq ho (jT hv) k2 (by omega) h c hc
      cases hun : ar n c with
      | false => rfl
      | true =>
       by_cases e : n = c
       . subst e; exact absurd ((zV hne).2 hc) hh
       . rw [yF hv hun e] at ih; cases ih
theorem Cs {z : aq} (hv : aO z = true) {n : Bs} (hn : ah n = true) (hu : ar n z.apex = true) :
 (pI z n = none /\ spec (aT z) n = []) \/ ∃ c, pI z n = some c /\ spec (aT z) n = c /\ c ∈ aT z /\ c ≠ [] := by
 have ho := aW hv
 obtain ⟨hA, ha, _⟩ := iC ho
 cases h : pI z n with
 | none => exact .inl ⟨rfl, nr fun c hc => tq ho hn hu rfl h c (ml hc)⟩
 | some c =>
  obtain ⟨h1, h2⟩ := oE hn h
  have h3 := xg hv h1
  exact .inr ⟨c, rfl, jE hA ha h3 h2, h3, jX (lK ho h3)⟩
theorem Dr {z : aq} (ho : Ordered z) {s : Signed} (hs : s ∈ z.sets) : ar s.set.name z.apex = true := by
 have := ho.under s hs
 unfold aD at this; rw [if_pos ⟨ho.name s hs, ho.apex⟩] at this; exact this
end NP

set_option maxRecDepth 100000
namespace NP
open NQ Go
theorem xf (p : Bs × Int) : cpl p p = 0 := (dD.zero _ _).2 rfl
theorem dX {a b : Bs × Int} (h : cpl a b < 0) : a ≠ b := fun e => by subst e; rw [xf] at h; omega
theorem En {a b : Bs × Int} (h : cpl a b < 0) (k : cpl b a < 0) : False := by have := dD.anti a b; omega
theorem u9 {a b c : Bs × Int} (h : cpl a b < 0) (k : cpl b c < 0) : cpl a c < 0 := dD.IV h (by omega)
abbrev RP (l : List Signed) : Prop := l.Pairwise fun a b => cpl a.place b.place < 0
theorem cn.pw : ∀ {l : List Signed}, cn l -> RP l
 | [], _ => List.Pairwise.nil
 | x :: t, h => List.Pairwise.cons (jC h) h.tail.pw
theorem RP.rising : ∀ {l : List Signed}, RP l -> cn l
 | [], _ => trivial
 | [_], _ => trivial
 | a :: b :: t, h => ⟨(List.pairwise_cons.1 h).1 b (List.mem_cons_self ..), RP.rising (List.pairwise_cons.1 h).2⟩
theorem RP.ext : ∀ {a b : List Signed}, RP a -> RP b -> (∀ x, x ∈ a ↔ x ∈ b) -> a = b
 | [], [], _, _, _ => rfl
 | [], y :: b, _, _, h => by have := (h y).2 (List.mem_cons_self ..); cases this
 | x :: a, [], _, _, h => by have := (h x).1 (List.mem_cons_self ..); cases this
 | x :: a, y :: b, ha, hb, h => by
  obtain ⟨a1, a2⟩ := List.pairwise_cons.1 ha
  obtain ⟨b1, b2⟩ := List.pairwise_cons.1 hb
  have hxy : x = y := by
   rcases List.mem_cons.1 ((h x).1 (List.mem_cons_self ..)) with e | hx
   . exact e
   . rcases List.mem_cons.1 ((h y).2 (List.mem_cons_self ..)) with e | hy
     . exact e.symm
     . exact (En (b1 x hx) (a1 y hy)).elim
  subst hxy
  congr 1
  refine RP.ext a2 b2 fun z => ⟨fun hz => ?_, fun hz => ?_⟩
  . rcases List.mem_cons.1 ((h z).1 (List.mem_cons_of_mem _ hz)) with rfl | hz'
    . exact (dX (a1 _ hz) rfl).elim
    . exact hz'
  . rcases List.mem_cons.1 ((h z).2 (List.mem_cons_of_mem _ hz)) with rfl | hz'
    . exact (dX (b1 _ hz) rfl).elim
    . exact hz'
theorem RP.uniq : ∀ {l : List Signed}, RP l -> ∀ {a b : Signed}, a ∈ l -> b ∈ l -> a.place = b.place -> a = b
 | [], _, _, _, ha, _, _ => by cases ha
 | x :: l, h, a, b, ha, hb, e => by
  obtain ⟨h1, h2⟩ := List.pairwise_cons.1 h
  rcases List.mem_cons.1 ha with ha' | ha' <;> rcases List.mem_cons.1 hb with hb' | hb'
  . rw [ha', hb']
  . subst ha'; exact (dX (h1 b hb') e).elim
  . subst hb'; exact (dX (h1 a ha') e.symm).elim
  . exact RP.uniq h2 ha' hb' e
theorem dZ {l : List Signed} {q : ay} : bo l q = true ↔ ∃ s ∈ l, s.place = q.place := by
 simp only [bo, List.any_eq_true, mu]
theorem CI {l : List Signed} {q : ay} : bo l q = false ↔ ∀ s ∈ l, s.place ≠ q.place := by
 rw [<- Bool.not_eq_true, dZ]
 exact ⟨fun h s hs e => h ⟨s, hs, e⟩, fun h ⟨s, hs, e⟩ => h s hs e⟩
def ins (s : Signed) : List Signed -> List Signed
 | [] => [s]
 | x :: l => if cpl x.place s.place < 0 then x :: ins s l else if x.place = s.place then s :: l else s :: x :: l
theorem uE (s x : Signed) (l : List Signed) : posOf (x :: l) (qOf s) = if cpl x.place s.place < 0 then posOf l (qOf s) + 1 else 0 := by
 have e : (qOf s).place = s.place := rfl
 unfold posOf
 rw [List.takeWhile_cons, e]
 by_cases h : cpl x.place s.place < 0 <;> simp [h]
theorem CP {s x : Signed} {l : List Signed} (h1 : ∀ y ∈ l, cpl x.place y.place < 0) (h : cpl s.place x.place < 0) : bo (x :: l) (qOf s) = false := by
 refine CI.2 fun y hy e => ?_
 have e : y.place = s.place := e
 rcases List.mem_cons.1 hy with rfl | hy
 . exact dX h e.symm
 . exact dX (u9 h (h1 y hy)) e.symm
theorem xe {a b : Bs × Int} (h : ¬ cpl a b < 0) (hne : a ≠ b) : cpl b a < 0 := by
 have h0 : cpl a b ≠ 0 := fun e => hne ((dD.zero _ _).1 e)
 have := dD.anti a b
 omega
theorem uN (s : Signed) : ∀ {l : List Signed}, RP l -> jm l s = ins s l
 | [], _ => by simp [jm, bo, oJ, posOf, ins]
 | x :: l, h => by
  obtain ⟨h1, h2⟩ := List.pairwise_cons.1 h
  have ih := uN s h2
  unfold ins
  by_cases hlt : cpl x.place s.place < 0
  . rw [if_pos hlt, <- ih]
    have hx : is (qOf s) x = false := by
     rw [<- Bool.not_eq_true, mu]; exact dX hlt
    have hh : bo (x :: l) (qOf s) = bo l (qOf s) := by simp [bo, hx]
    unfold jm
    rw [hh, uE, if_pos hlt]
    split <;> simp [oJ]
  . rw [if_neg hlt]
    by_cases he : x.place = s.place
    . rw [if_pos he]
      have hh : bo (x :: l) (qOf s) = true := dZ.2 ⟨x, List.mem_cons_self .., he⟩
      unfold jm
      rw [if_pos hh, uE, if_neg hlt]; rfl
    . rw [if_neg he]
      have hh := CP h1 (xe hlt he)
      unfold jm
      rw [if_neg (by rw [hh]; simp), uE, if_neg hlt]; rfl
theorem kx (s : Signed) : ∀ {l : List Signed}, RP l -> ∀ y, y ∈ ins s l ↔ y = s \/ (y ∈ l /\ y.place ≠ s.place)
 | [], _, y => by simp [ins]
 | x :: l, h, y => by
  obtain ⟨h1, h2⟩ := List.pairwise_cons.1 h
  unfold ins
  by_cases hlt : cpl x.place s.place < 0
  . rw [if_pos hlt, List.mem_cons, kx s h2, List.mem_cons]
    constructor
    . rintro (rfl | rfl | ⟨k, k2⟩)
      . exact .inr ⟨.inl rfl, dX hlt⟩
      . exact .inl rfl
      . exact .inr ⟨.inr k, k2⟩
    . rintro (rfl | ⟨rfl | k, k2⟩)
      . exact .inr (.inl rfl)
      . exact .inl rfl
      . exact .inr (.inr ⟨k, k2⟩)
  . rw [if_neg hlt]
    by_cases he : x.place = s.place
    . rw [if_pos he, List.mem_cons, List.mem_cons]
      constructor
      . rintro (rfl | k)
        . exact .inl rfl
        . exact .inr ⟨.inr k, fun e => dX (h1 y k) (he.trans e.symm)⟩
      . rintro (rfl | ⟨rfl | k, k2⟩)
        . exact .inl rfl
        . exact absurd he k2
        . exact .inr k
    . rw [if_neg he, List.mem_cons]
      constructor
      . rintro (rfl | k)
        . exact .inl rfl
        . refine .inr ⟨k, fun e => ?_⟩
          have := CP h1 (xe hlt he)
          exact CI.1 this y k e
      . rintro (rfl | ⟨k, k2⟩)
        . exact .inl rfl
        . exact .inr k
theorem Dj (s : Signed) : ∀ {l : List Signed}, RP l -> RP (ins s l)
 | [], _ => List.pairwise_singleton _ _
 | x :: l, h => by
  obtain ⟨h1, h2⟩ := List.pairwise_cons.1 h
  unfold ins
  by_cases hlt : cpl x.place s.place < 0
  . rw [if_pos hlt]
    refine List.Pairwise.cons (fun y hy => ?_) (Dj s h2)
    rcases (kx s h2 y).1 hy with rfl | ⟨k, _⟩
    . exact hlt
    . exact h1 y k
  . rw [if_neg hlt]
    by_cases he : x.place = s.place
    . rw [if_pos he]
      exact List.Pairwise.cons (fun y hy => he ▸ h1 y hy) h2
    . rw [if_neg he]
      have hg := xe hlt he
      refine List.Pairwise.cons (fun y hy => ?_) h
      rcases List.mem_cons.1 hy with rfl | hy
      . exact hg
      . exact u9 hg (h1 y hy)
theorem GO (s : Signed) : ∀ {l : List Signed}, RP l -> (ins s l).length = if bo l (qOf s) = true then l.length else l.length + 1
 | l, h => by
  rw [<- uN s h, jm]
  have hp : posOf l (qOf s) <= l.length := by unfold posOf; exact (List.takeWhile_sublist _).length_le
  split
  . simp
  . simp [oJ]; omega
def rem (q : ay) (l : List Signed) : List Signed := l.filter fun x => !is q x
theorem vJ {s : gP} (h : cv s = true) : 1 <= s.type /\ s.type <= 8 := by
 unfold cv at h; simp only [Bool.and_eq_true, Bool.not_eq_true', Bool.or_eq_false_iff, Bool.not_eq_false'] at h
 have := h.1.1.1.1.2
 simp [within] at this; exact this
theorem pt {z : aq} (ho : Ordered z) : aliases z = true ↔ ∀ s ∈ z.sets, ∀ x ∈ z.sets, s.set.type = 3 -> x.set.name = s.set.name -> x.set.type = 3 \/ x.set.type = 8 := by
 unfold aliases
 rw [List.all_eq_true]
 constructor
 . intro h s hs x hx h3 hn
   obtain ⟨i, hi⟩ := List.getElem?_of_mem hs
   obtain ⟨j, hj⟩ := List.getElem?_of_mem hx
   have hil := (List.getElem?_eq_some_iff.1 hi).1
   have hjl := (List.getElem?_eq_some_iff.1 hj).1
   obtain ⟨p, hp⟩ : ∃ p, z.sets[i - 1]? = some p := ⟨_, List.getElem?_eq_getElem (by omega)⟩
   have hok := h i (List.mem_range.2 hil)
   refine Decidable.byContradiction fun hno => ?_
   have hne3 : x.set.type ≠ 3 := fun e => hno (.inl e)
   have hne8 : x.set.type ≠ 8 := fun e => hno (.inr e)
   have hbad : jK z i = false := by
    refine (j8 hi hp).2 ⟨h3, ?_⟩
    rcases Nat.lt_trichotomy j i with hlt | heq | hgt
    . left
      refine ⟨by omega, ?_⟩
      rcases Nat.lt_or_eq_of_le (show j <= i - 1 by omega) with k | k
      . have a1 := (gk (dA ho.rising k hj hp)).1
        have a2 := (gk (dA ho.rising (show i - 1 < i by omega) hp hi)).1
        rw [hn] at a1
        exact (AH a1 a2).symm
      . rw [<- k, hj] at hp; cases hp; exact hn
    . subst heq; rw [hi] at hj; cases hj; exact absurd h3 hne3
    . right
      rcases Nat.lt_or_eq_of_le (show i + 1 <= j by omega) with k | k
      . obtain ⟨y, hy⟩ : ∃ y, z.sets[i + 1]? = some y := ⟨_, List.getElem?_eq_getElem (by omega)⟩
        have a1 := gk (dA ho.rising k hy hj)
        have a2 := (gk (dA ho.rising (show i < i + 1 by omega) hi hy)).1
        have hyn : y.set.name = s.set.name := by
         have := a1.1; rw [hn] at this; exact AH this a2
        refine ⟨y, hy, hyn, ?_⟩
        have := a1.2 (hyn.trans hn.symm)
        have := (vJ (ho.set x hx)).2
        omega
      . exact ⟨x, by rw [k]; exact hj, hn, hne8⟩
   rw [hbad] at hok; cases hok
 . intro h i hi
   have hil := List.mem_range.1 hi
   obtain ⟨s, hs⟩ : ∃ s, z.sets[i]? = some s := ⟨_, List.getElem?_eq_getElem hil⟩
   obtain ⟨p, hp⟩ : ∃ p, z.sets[i - 1]? = some p := ⟨_, List.getElem?_eq_getElem (by omega)⟩
   cases hb : jK z i with
   | true => rfl
   | false =>
    obtain ⟨h3, k⟩ := (j8 hs hp).1 hb
    have hsm := List.mem_of_getElem? hs
    rcases k with ⟨k1, k2⟩ | ⟨x, k1, k2, k3⟩
    . have := (gk (dA ho.rising (show i - 1 < i by omega) hp hs)).2 k2
      rcases h s hsm p (List.mem_of_getElem? hp) h3 k2 with e | e <;> omega
    . have := (gk (dA ho.rising (show i < i + 1 by omega) hs k1)).2 k2.symm
      rcases h s hsm x (List.mem_of_getElem? k1) h3 k2 with e | e
      . omega
      . exact absurd e k3
theorem jf {α : Type} {l : List α} {p : Nat -> Bool} {q : α -> Bool} (h : ∀ i s, l[i]? = some s -> p i = q s) : (List.range l.length).all p = true ↔ ∀ s ∈ l, q s = true := by
 rw [List.all_eq_true]
 constructor
 . intro k s hs
   obtain ⟨i, hi⟩ := List.getElem?_of_mem hs
   rw [<- h i s hi]
   exact k i (List.mem_range.2 (List.getElem?_eq_some_iff.1 hi).1)
 . intro k i hi
   have hi := List.mem_range.1 hi
   rw [h i _ (List.getElem?_eq_getElem hi)]
   exact k _ (List.getElem_mem hi)
theorem Ordered.bool {z : aq} (h : Ordered z) : ordered z = true := by
 unfold ordered
 have hall : (List.range z.sets.length).all (nj z) = true := by
  rw [List.all_eq_true]
  intro i hi
  have hi := List.mem_range.1 hi
  obtain ⟨s, hs⟩ : ∃ s, z.sets[i]? = some s := ⟨_, List.getElem?_eq_getElem hi⟩
  obtain ⟨p, hp⟩ : ∃ p, z.sets[i - 1]? = some p := ⟨_, List.getElem?_eq_getElem (by omega)⟩
  have hsm := List.mem_of_getElem? hs
  have hpm := List.mem_of_getElem? hp
  rw [mB hs hp, iW, h.set s hsm, h.under s hsm, oC _ _ (h.name p hpm) (h.name s hsm)]
  by_cases h0 : i = 0
  . subst h0; rfl
  . have := dA h.rising (show i - 1 < i by omega) hp hs
    have e : cpl (p.set.name, p.set.type) (s.set.name, s.set.type) < 0 := this
    have e2 : ¬ cpl (p.set.name, p.set.type) (s.set.name, s.set.type) >= 0 := by omega
    simp [e2]
 have hf : ¬ ((z.sets.length : Int) > 20000) := by have := h.few; omega
 rw [hall, h.apex, h.tame]
 simp [hf]
structure Val (z : aq) : Prop where
 ord : Ordered z
 start : bo z.sets ⟨z.apex, 4⟩ = true
 serv : bo z.sets ⟨z.apex, 2⟩ = true
 fit : ∀ s ∈ z.sets, fits s.set.type (s.set.name == z.apex) = true
 ali : ∀ s ∈ z.sets, ∀ x ∈ z.sets, s.set.type = 3 -> x.set.name = s.set.name -> x.set.type = 3 \/ x.set.type = 8
 cut : ∀ s ∈ z.sets, gY s (spec (aT z) s.set.name) = false
 sig : ∀ s ∈ z.sets, jU s (spec (aT z) s.set.name) = false
 form : ∀ s ∈ z.sets, cG s.sigs z.apex = true
theorem zR (z : aq) : (List.range z.sets.length).all (fY z) = true ↔ ∀ s ∈ z.sets, fits s.set.type (s.set.name == z.apex) = true :=
 jf fun i s h => by unfold fY; rw [h]
theorem xy (z : aq) : kK z = true ↔ ∀ s ∈ z.sets, cG s.sigs z.apex = true :=
 jf fun i s h => by unfold jd; rw [h]
theorem pJ {z : aq} (ho : Ordered z) : fp z (aR z) = true ↔ ∀ s ∈ z.sets, gY s (spec (aT z) s.set.name) = false := by
 unfold fp
 rw [jf (q := fun s => !gY s (spec (aT z) s.set.name)) fun i s h => by unfold cutAt; rw [uY h ho, h]]
 simp only [Bool.not_eq_true']
theorem qs {z : aq} (ho : Ordered z) : gq z (aR z) = true ↔ ∀ s ∈ z.sets, jU s (spec (aT z) s.set.name) = false := by
 unfold gq
 rw [jf (q := fun s => !jU s (spec (aT z) s.set.name)) fun i s h => by unfold lS; rw [uY h ho, h]]
 simp only [Bool.not_eq_true']
theorem rb {z : aq} : aO z = true ↔ Val z := by
 constructor
 . intro h
   have ho := aW h
   unfold aO eR at h
   simp only [Bool.and_eq_true] at h
   obtain ⟨⟨_, ⟨⟨a1, a2⟩, a3⟩⟩, ⟨⟨b1, b2⟩, b3⟩, b4⟩ := h
   exact ⟨ho, a1, a2, (zR z).1 a3, (pt ho).1 b1, (pJ ho).1 b2, (qs ho).1 b3, (xy z).1 b4⟩
 . intro h
   unfold aO eR
   dsimp only
   rw [h.ord.bool, h.start, h.serv, (zR z).2 h.fit, (pt h.ord).2 h.ali, (pJ h.ord).2 h.cut, (qs h.ord).2 h.sig, (xy z).2 h.form]
   rfl
theorem o0 {z : aq} (ho : Ordered z) (n : Bs) : (spec (aT z) n = [] /\ ∀ c ∈ bq z.apex z.sets, ar n c = false) \/
 (spec (aT z) n ∈ bq z.apex z.sets /\ ar n (spec (aT z) n) = true /\ ∀ c ∈ bq z.apex z.sets, ar n c = true -> ar c (spec (aT z) n) = true) := by
 obtain ⟨hA, ha, hg⟩ := iC ho
 by_cases he : ∃ h ∈ aT z, ar n h = true
 . obtain ⟨h, hm, hu⟩ := he
   have e := jE hA ha hm hu
   rw [e]
   refine .inr ⟨ml hm, hu, fun c hc hn => ?_⟩
   obtain ⟨g, hgm, hgu⟩ := hg c hc
   have e2 := jE hA ha hgm (nN hn hgu)
   rw [<- e, e2]; exact hgu
 . have hno : ∀ h ∈ aT z, ar n h = false := fun h hm => by
    cases hu : ar n h with
    | false => rfl
    | true => exact (he ⟨h, hm, hu⟩).elim
   refine .inl ⟨nr hno, fun c hc => ?_⟩
   cases hu : ar n c with
   | false => rfl
   | true =>
    obtain ⟨g, hgm, hgu⟩ := hg c hc
    exact (he ⟨g, hgm, nN hu hgu⟩).elim
theorem Ct {z : aq} (ho : Ordered z) {c : Bs} (h : c ∈ bq z.apex z.sets) : c ≠ [] /\ c ≠ z.apex /\ ah c = true /\ ar c z.apex = true /\ bo z.sets ⟨c, 2⟩ = true := by
 obtain ⟨s, hs, h1, h2⟩ := (fO _ _ _).1 h
 subst h2
 unfold cd at h1
 simp only [Bool.and_eq_true, beq_iff_eq, Bool.not_eq_true', beq_eq_false_iff_ne] at h1
 exact ⟨jX (ho.name s hs), h1.2, ho.name s hs, Dr ho hs, dZ.2 ⟨s, hs, by show (s.set.name, s.set.type) = _; rw [h1.1]; rfl⟩⟩
theorem I3 {z y : aq} (hz : Ordered z) (hy : Ordered y) (h : ∀ c, c ∈ bq z.apex z.sets ↔ c ∈ bq y.apex y.sets) (n : Bs) : spec (aT z) n = spec (aT y) n := by
 rcases o0 hz n with ⟨a1, a2⟩ | ⟨a1, a2, a3⟩ <;> rcases o0 hy n with ⟨b1, b2⟩ | ⟨b1, b2, b3⟩
 . rw [a1, b1]
 . have := a2 _ ((h _).2 b1); rw [b2] at this; cases this
 . have := b2 _ ((h _).1 a1); rw [a2] at this; cases this
 . exact o9 (b3 _ ((h _).1 a1) a2) (a3 _ ((h _).2 b1) b2)
end NP

set_option maxRecDepth 100000
namespace NP
open NQ Go
theorem jB {z : aq} (ho : Ordered z) (s : Signed) : (bp z s).sets = ins s z.sets := uN s ho.rising.pw
structure Ax (z : aq) (s : Signed) : Prop where
 set : cv s.set = true
 form : cG s.sigs z.apex = true
 under : (aD s.set.name z.apex).1 = true
 fit : fits s.set.type (s.set.name == z.apex) = true
 room : bo z.sets (qOf s) = true \/ z.sets.length < 20000
def F8 (y : aq) : aq × Int :=
 if (!aliases y) = true then (dM, 21) else if (!fp y (aR y)) = true then (dM, 20) else if (!gq y (aR y)) = true then (dM, 30) else (y, 0)
theorem Jp {z : aq} {s : Signed} (hv : aO z = true) (h : Ax z s) : kz z s = F8 (bp z s) := by
 unfold kz F8
 have hroom : (!bo z.sets (qOf s) && decide ((z.sets.length : Int) >= 20000)) = false := by
  rcases h.room with k | k
  . rw [k]; rfl
  . rw [decide_eq_false (by omega), Bool.and_false]
 rw [if_neg (by simp [h.set, hv]), if_neg (by simp [h.form]), if_neg (by simp [h.under]), if_neg (by simp [h.fit]), if_neg (by rw [hroom]; simp)]
theorem zq {z : aq} {s : Signed} (ho : Ordered z) (h : Ax z s) : Ordered (bp z s) := by
 have hm : ∀ x ∈ (bp z s).sets, x = s \/ x ∈ z.sets := fun x hx => by
  rw [jB ho] at hx
  rcases (kx s ho.rising.pw x).1 hx with e | e
  . exact .inl e
  . exact .inr e.1
 refine ⟨ho.apex, ho.tame, ?_, fun x hx => ?_, fun x hx => ?_, ?_⟩
 . rw [jB ho, GO s ho.rising.pw]
   have := ho.few
   rcases h.room with k | k
   . rw [if_pos k]; exact this
   . split <;> omega
 . rcases hm x hx with rfl | hx
   . exact h.set
   . exact ho.set x hx
 . rcases hm x hx with rfl | hx
   . exact h.under
   . exact ho.under x hx
 . rw [jB ho]; exact (Dj s ho.rising.pw).rising
theorem Al {z : aq} {s : Signed} (ho : Ordered z) {q : ay} (h : bo z.sets q = true) : bo (bp z s).sets q = true := by
 obtain ⟨x, hx, e⟩ := dZ.1 h
 rw [jB ho]
 by_cases hp : x.place = s.place
 . exact dZ.2 ⟨s, (kx s ho.rising.pw s).2 (.inl rfl), hp ▸ e⟩
 . exact dZ.2 ⟨x, (kx s ho.rising.pw x).2 (.inr ⟨hx, hp⟩), e⟩
theorem Jr {z : aq} {s : Signed} (hv : aO z = true) (h : Ax z s) (h2 : aliases (bp z s) = true /\ fp (bp z s) (aR (bp z s)) = true /\ gq (bp z s) (aR (bp z s)) = true) : aO (bp z s) = true := by
 have V := rb.1 hv
 have ho := V.ord
 have hy := zq ho h
 have hm : ∀ x ∈ (bp z s).sets, x = s \/ x ∈ z.sets := fun x hx => by
  rw [jB ho] at hx
  rcases (kx s ho.rising.pw x).1 hx with e | e
  . exact .inl e
  . exact .inr e.1
 refine rb.2 ⟨hy, Al ho V.start, Al ho V.serv, fun x hx => ?_, (pt hy).1 h2.1, (pJ hy).1 h2.2.1, (qs hy).1 h2.2.2, fun x hx => ?_⟩
 . rcases hm x hx with rfl | hx
   . exact h.fit
   . exact V.fit x hx
 . rcases hm x hx with rfl | hx
   . exact h.form
   . exact V.form x hx
theorem Ft {s : Signed} (h : cv s.set = true) : bc (qOf s) = true := by
 have h1 := fe h
 have h2 := vJ h
 unfold bc qOf
 simp only [h1, Bool.true_and, Bool.and_eq_true, decide_eq_true_eq]
 exact ⟨h2.1, h2.2⟩
theorem EK {z : aq} (hv : aO z = true) {s : Signed} (hs : s ∈ z.sets) : iz z (qOf s) = (s, true, 0) := by
 have ho := aW hv
 have hh : bo z.sets (qOf s) = true := dZ.2 ⟨s, hs, rfl⟩
 obtain ⟨x, hx, hm, hp⟩ := oI ho (q := qOf s) (ho.name s hs) hh
 have e := ho.rising.pw.uniq hm hs hp
 subst e
 unfold iz
 rw [if_neg (by simp [Ft (ho.set _ hs), hv]), if_neg (by simp [hh]), hx]
 rfl
theorem EL {z : aq} (hv : aO z = true) {q : ay} (hq : bc q = true) (h : bo z.sets q = false) : iz z q = (iZ, false, 0) := by
 unfold iz
 rw [if_neg (by simp [hq, hv]), if_pos (by simp [h])]
theorem GH {z : aq} (hv : aO z = true) {q : ay} (hq : bc q = true) (h : bo z.sets q = true) : ∃ s ∈ z.sets, s.place = q.place /\ iz z q = (s, true, 0) := by
 obtain ⟨s, hs, e⟩ := dZ.1 h
 refine ⟨s, hs, e, ?_⟩
 have : q = qOf s := by
  have e1 : s.set.name = q.name := congrArg Prod.fst e
  have e2 : s.set.type = q.type := congrArg Prod.snd e
  cases q; simp [qOf] at e1 e2 ⊢; exact ⟨e1.symm, e2.symm⟩
 rw [this]; exact EK hv hs
theorem FP {z : aq} (hv : aO z = true) {c n : Bs} (hc : c ∈ bq z.apex z.sets) (hu : ar n c = true) : spec (aT z) n = c := by
 obtain ⟨hA, ha, _⟩ := iC (aW hv)
 exact jE hA ha (xg hv hc) hu
end NP

set_option maxRecDepth 100000
namespace NP
open NQ Go
theorem qH {l : List Signed} {q : ay} (h : bo l q = true) : ∃ (k : Nat) (s : Signed), atI l q = k /\ l[k]? = some s /\ s.place = q.place := by
 unfold atI
 cases hf : l.findIdx? (is q) with
 | none =>
  rw [List.findIdx?_eq_none_iff] at hf
  unfold bo at h
  rw [List.any_eq_true] at h
  obtain ⟨s, hs, e⟩ := h
  rw [hf s hs] at e; cases e
 | some k =>
  obtain ⟨h1, h2, _⟩ := List.findIdx?_eq_some_iff_getElem.1 hf
  exact ⟨k, l[k], rfl, List.getElem?_eq_getElem h1, (mu q _).1 h2⟩
theorem Hz {l : List Signed} (hl : RP l) {q : ay} {k : Nat} {s : Signed} (hk : l[k]? = some s) (hp : s.place = q.place) : posOf l q = k := by
 unfold posOf
 have h1 : l = l.take k ++ s :: l.drop (k + 1) := by
  obtain ⟨hlt, e⟩ := List.getElem?_eq_some_iff.1 hk
  conv => lhs; rw [<- List.take_append_drop k l, List.drop_eq_getElem_cons hlt, e]
 have hlt : k < l.length := (List.getElem?_eq_some_iff.1 hk).1
 have h2 : ∀ x ∈ l.take k, decide (cpl x.place q.place < 0) = true := fun x hx => by
  have hl' := hl
  rw [h1] at hl'
  have := (List.pairwise_append.1 hl').2.2 x hx s (List.mem_cons_self ..)
  rw [<- hp]; simpa using this
 conv => lhs; rw [h1]
 rw [List.takeWhile_append_of_pos h2, List.takeWhile_cons, if_neg (by rw [hp, xf]; simp)]
 simp; omega
def bw (z : aq) (n : Bs) : Bs := ((bq z.apex z.sets).find? fun c => ar n c).getD []
theorem Ep {z : aq} (hv : aO z = true) (n : Bs) : bw z n = spec (aT z) n := by
 unfold bw
 cases hf : (bq z.apex z.sets).find? fun c => ar n c with
 | none =>
  rw [List.find?_eq_none] at hf
  rcases o0 (aW hv) n with ⟨e, _⟩ | ⟨e1, e2, _⟩
  . rw [e]; rfl
  . exact absurd e2 (hf _ e1)
 | some c =>
  have h1 := List.find?_some hf
  have h2 := List.mem_of_find?_eq_some hf
  rw [FP hv h2 h1]; rfl
theorem Gv {z : aq} {n : Bs} (hv : aO z = true) (hn : ah n = true) (hu : ar n z.apex = true) : dH z n = (bw z n, !(bw z n == []), 0) := by
 have ha := (aW hv).apex
 have hu' : (aD n z.apex).1 = true := by unfold aD; rw [if_pos ⟨hn, ha⟩]; exact hu
 rw [Ep hv]
 unfold dH
 rw [if_neg (by simp [hv, hn]), if_neg (by simp [hu'])]
 rcases Cs hv hn hu with ⟨e1, e2⟩ | ⟨c, e1, e2, _, e3⟩
 . rw [e1, e2]; rfl
 . rw [e1, e2]
   have : (c == []) = false := by simpa using e3
   rw [this]; rfl
theorem Asc.ext : ∀ {a b : List Bs}, Asc a -> Asc b -> (∀ x, x ∈ a ↔ x ∈ b) -> a = b
 | [], [], _, _, _ => rfl
 | [], y :: b, _, _, h => by have := (h y).2 (List.mem_cons_self ..); cases this
 | x :: a, [], _, _, h => by have := (h x).1 (List.mem_cons_self ..); cases this
 | x :: a, y :: b, ha, hb, h => by
  obtain ⟨a1, a2⟩ := List.pairwise_cons.1 ha
  obtain ⟨b1, b2⟩ := List.pairwise_cons.1 hb
  have irr : ∀ c : Bs, ¬ av c c < 0 := fun c hc => by have := (aS.zero c c).2 rfl; omega
  have hxy : x = y := by
   rcases List.mem_cons.1 ((h x).1 (List.mem_cons_self ..)) with e | hx
   . exact e
   . rcases List.mem_cons.1 ((h y).2 (List.mem_cons_self ..)) with e | hy
     . exact e.symm
     . have h1 := b1 x hx
       have h2 := a1 y hy
       exact absurd (show av y x <= 0 by omega) (uu h2)
  subst hxy
  congr 1
  refine Asc.ext a2 b2 fun z => ⟨fun hz => ?_, fun hz => ?_⟩
  . rcases List.mem_cons.1 ((h z).1 (List.mem_cons_of_mem _ hz)) with e | hz'
    . subst e; exact (irr _ (a1 _ hz)).elim
    . exact hz'
  . rcases List.mem_cons.1 ((h z).2 (List.mem_cons_of_mem _ hz)) with e | hz'
    . subst e; exact (irr _ (b1 _ hz)).elim
    . exact hz'
def ref (o : Bool) (s : Signed) : Bool := o || (s.set.type == 2)
def mark (s : Signed) (o : Bool) : Bs := if ref o s = true then [] else s.set.name ++ [0]
end NP

set_option maxRecDepth 100000
namespace Go.Proofs.YtnbnldnfkikakaaGreatDoor
open NQ Go NP Go.RowKit
theorem Dk (q : ay) : NQ.Fn cx 44 [.agg (bE q)] (.d (.bool (bc q))) [] := by
 refine ao az mixed Tryz.func44 (by kernel_rfl) rfl (Nat.le_of_ble_eq_true rfl) ?_; conv => whnf
 (refine ⟨_, _, kU q.name, ?_⟩; conv => whnf)
 (refine ab (fun h => ?_) (fun h => ?_) <;> (rw [h]; conv => whnf))
 . have h1 := h
   (refine ab (fun h => ?_) (fun h => ?_) <;> (rw [h]; conv => whnf))
   . refine ae rfl ?_; show AV.d (D.bool _) = _; simp only [bc, *, if_true, if_false, Bool.false_eq_true, Bool.not_true, Bool.not_false, Bool.not_not, Bool.true_or, Bool.or_true, Bool.false_or, Bool.or_false, Bool.and_true, Bool.true_and, Bool.false_and, Bool.and_false]
   . refine ae rfl ?_; show AV.d (D.bool _) = _; simp only [bc, *, if_true, if_false, Bool.false_eq_true, Bool.not_true, Bool.not_false, Bool.not_not, Bool.true_or, Bool.or_true, Bool.false_or, Bool.or_false, Bool.and_true, Bool.true_and, Bool.false_and, Bool.and_false]
 . refine ae rfl ?_; show AV.d (D.bool _) = _; simp only [bc, *, if_true, if_false, Bool.false_eq_true, Bool.not_true, Bool.not_false, Bool.not_not, Bool.true_or, Bool.or_true, Bool.false_or, Bool.or_false, Bool.and_true, Bool.true_and, Bool.false_and, Bool.and_false]
theorem Dm (z : aq) (hn : z.sets.length <= 100000) : NQ.Fn cx 58 [.agg (aL z)] (.d (.bool (aO z))) [] := by
 have := DJ z hn
 rwa [FQ] at this
end Go.Proofs.YtnbnldnfkikakaaGreatDoor

set_option maxRecDepth 100000
namespace NP
open NQ Go
structure View where
 apex : Bs
 sets : List Signed
 q : ay
 cut : Bs
 behind : Bool
 bH : Bs
def gD : Nat -> List Signed -> List (List D × D)
 | _, [] => []
 | i, s :: t => (bE (qOf s), .int .i64 i) :: gD (i + 1) t
def bT (v : View) : List D := [.str v.apex, .slice 5 (v.sets.map aj), .kmap (gD 0 v.sets), .str v.q.name, .int .i64 v.q.type, .str v.cut, .bool v.behind, .str v.bH]
theorem GR (q : ay) (s : Signed) : bS [.str, .int .i64] ((bE q).map .d) ((bE (qOf s)).map .d) = some (is q s) := by
 show some ((q.name == s.set.name) && ((q.type == s.set.type) && true)) = _
 rw [Bool.and_true]
 unfold is
 congr 1
 rw [Bool.beq_comm (a := q.name), Bool.beq_comm (a := q.type)]
theorem uH (q : ay) : ∀ (l : List Signed) (i : Nat), jR [.str, .int .i64] (bE q) (gD i l) = some ((l.findIdx? (is q)).map fun k => D.int .i64 ((i + k : Nat) : Int))
 | [], i => rfl
 | s :: t, i => by
  rw [gD, jR, GR]
  cases h : is q s with
  | true => simp [List.findIdx?_cons, h]
  | false =>
   simp only
   rw [uH q t (i + 1), List.findIdx?_cons, h]
   simp only [Bool.false_eq_true, if_false]
   cases t.findIdx? (is q) <;> simp
   omega
def lD (l : List Signed) (n : Bs) : Nat := (l.takeWhile fun s => decide (av s.set.name n < 0)).length
theorem Hd (l : List Signed) (n : Bs) : lD l n <= l.length := (List.takeWhile_sublist _).length_le
theorem oQ {n : Bs} : ∀ {l : List Signed}, l.Pairwise (fun a b => av a.set.name b.set.name <= 0) -> ∀ {i : Nat} {s : Signed}, l[i]? = some s -> (lD l n <= i ↔ 0 <= av s.set.name n)
 | [], _, i, s, h => by cases h
 | x :: l, hp, i, s, h => by
  obtain ⟨h1, h2⟩ := List.pairwise_cons.1 hp
  unfold lD
  rw [List.takeWhile_cons]
  by_cases hx : av x.set.name n < 0
  . rw [if_pos (by simpa using hx), List.length_cons]
    cases i with
    | zero => cases h; exact ⟨fun h => by omega, fun h => by omega⟩
    | succ i =>
     have := oQ (n := n) h2 (i := i) (s := s) (by simpa using h)
     unfold lD at this
     omega
  . rw [if_neg (by simpa using hx), List.length_nil]
    refine ⟨fun _ => ?_, fun _ => Nat.zero_le _⟩
    cases i with
    | zero => cases h; omega
    | succ i =>
     have hm : s ∈ l := List.mem_of_getElem? (i := i) (by simpa using h)
     have h3 := h1 s hm
     by_cases h4 : av s.set.name n < 0
     . exact absurd (aS.IU h3 h4) hx
     . omega
def exB (l : List Signed) (n : Bs) : Bool := match l[lD l n]? with | some s => (aD s.set.name n).1 | none => false
end NP
namespace Go.Proofs.YtnbnldnfkikakaaGreatDoor
open NQ Go NP Go.RowKit
theorem rK (a b : Bs) : NQ.Fn cx 168 [.str a, .str b] (.d (.int .i64 (bR a b).1)) [] := by
 refine ao az mixed Tryz.func168 (by kernel_rfl) rfl (Nat.le_of_ble_eq_true rfl) ?_; conv => whnf
 (refine ⟨_, _, sU a b, ?_⟩; conv => whnf)
 exact ae rfl rfl
theorem vr (a b : Bs) : NQ.Fn cx 113 [.str a, .str b] (.d (.bool (aD a b).1)) [] := by
 refine ao az mixed Tryz.func113 (by kernel_rfl) rfl (Nat.le_of_ble_eq_true rfl) ?_; conv => whnf
 (refine ⟨_, _, j7 a b, ?_⟩; conv => whnf)
 exact ae rfl rfl
theorem BI (n c : Nat) (x y : D) (hn : n <= 100000) (hc : c <= n) (hf : ∀ i : Nat, i < n -> NQ.Fn cx 167 [.int .i64 i, x, y] (.d (.bool (decide (c <= i)))) []) :
 NQ.Fn cx 166 [.int .i64 n, .fn 167 [] [x, y]] (.d (.int .i64 c)) [] := by
 refine ao az mixed Tryz.func166 (by kernel_rfl) rfl (Nat.le_of_ble_eq_true rfl) ?_; conv => whnf
 refine ⟨Nat × Nat, fun z => ⟨[(1, .d (.fn 167 [] [x, y])), (5, .d (.int .i64 z.1)), (6, .d (.int .i64 z.2))], []⟩, fun z => z.1 <= c /\ c <= z.2 /\ z.2 <= n, fun z => z.2 - z.1,
  ⟨(0, n), ⟨Nat.zero_le _, hc, Nat.le_refl _⟩, ai.keep ⟨⟨rfl, rfl⟩, ⟨rfl, rfl⟩, ⟨rfl, rfl⟩, trivial⟩ trivial⟩, ?_⟩
 rintro ⟨i, j⟩ ⟨h1, h2, h3⟩
 simp only at h1 h2 h3
 conv => whnf
 refine ab (fun hlt => ?_) (fun hlt => ?_) <;> (rw [hlt]; conv => whnf)
 . have hij : i < j := by simp at hlt; omega
   rw [xY (by omega)]
   (refine ⟨_, _, hf ((i + j) / 2) (by omega), ?_⟩; conv => whnf)
   refine ab (fun h => ?_) (fun h => ?_) <;> (rw [h]; conv => whnf)
   . have hlt : (i + j) / 2 < c := by simp at h; omega
     exact ⟨((i + j) / 2 + 1, j), ⟨hlt, h2, h3⟩, by (show j - ((i + j) / 2 + 1) < j - i; omega), ai.keep ⟨⟨rfl, rfl⟩, ⟨ak (by omega), rfl⟩, ⟨rfl, rfl⟩, trivial⟩ trivial⟩
   . have hle : c <= (i + j) / 2 := by simp at h; omega
     exact ⟨(i, (i + j) / 2), ⟨h1, hle, by (show (i + j) / 2 <= n; omega)⟩, by (show (i + j) / 2 - i < j - i; omega), ai.keep ⟨⟨rfl, rfl⟩, ⟨rfl, rfl⟩, ⟨rfl, rfl⟩, trivial⟩ trivial⟩
 . obtain rfl : i = c := by simp at hlt; omega
   exact ae rfl rfl
theorem BJ (n c : Nat) (x y : D) (hn : n <= 100000) (hc : c <= n) (hf : ∀ i : Nat, i < n -> NQ.Fn cx 194 [.int .i64 i, x, y] (.d (.bool (decide (c <= i)))) []) :
 NQ.Fn cx 166 [.int .i64 n, .fn 194 [] [x, y]] (.d (.int .i64 c)) [] := by
 refine ao az mixed Tryz.func166 (by kernel_rfl) rfl (Nat.le_of_ble_eq_true rfl) ?_; conv => whnf
 refine ⟨Nat × Nat, fun z => ⟨[(1, .d (.fn 194 [] [x, y])), (5, .d (.int .i64 z.1)), (6, .d (.int .i64 z.2))], []⟩, fun z => z.1 <= c /\ c <= z.2 /\ z.2 <= n, fun z => z.2 - z.1,
  ⟨(0, n), ⟨Nat.zero_le _, hc, Nat.le_refl _⟩, ai.keep ⟨⟨rfl, rfl⟩, ⟨rfl, rfl⟩, ⟨rfl, rfl⟩, trivial⟩ trivial⟩, ?_⟩
 rintro ⟨i, j⟩ ⟨h1, h2, h3⟩
 simp only at h1 h2 h3
 conv => whnf
 refine ab (fun hlt => ?_) (fun hlt => ?_) <;> (rw [hlt]; conv => whnf)
 . have hij : i < j := by simp at hlt; omega
   rw [xY (by omega)]
   (refine ⟨_, _, hf ((i + j) / 2) (by omega), ?_⟩; conv => whnf)
   refine ab (fun h => ?_) (fun h => ?_) <;> (rw [h]; conv => whnf)
   . have hlt : (i + j) / 2 < c := by simp at h; omega
     exact ⟨((i + j) / 2 + 1, j), ⟨hlt, h2, h3⟩, by (show j - ((i + j) / 2 + 1) < j - i; omega), ai.keep ⟨⟨rfl, rfl⟩, ⟨ak (by omega), rfl⟩, ⟨rfl, rfl⟩, trivial⟩ trivial⟩
   . have hle : c <= (i + j) / 2 := by simp at h; omega
     exact ⟨(i, (i + j) / 2), ⟨h1, hle, by (show (i + j) / 2 <= n; omega)⟩, by (show (i + j) / 2 - i < j - i; omega), ai.keep ⟨⟨rfl, rfl⟩, ⟨rfl, rfl⟩, ⟨rfl, rfl⟩, trivial⟩ trivial⟩
 . obtain rfl : i = c := by simp at hlt; omega
   exact ae rfl rfl
theorem gj (v : View) (n : Bs) (t : Int) : NQ.Fn cx 112 [.ptr (bT v), .str n, .int .i64 t] (.d (.int .i64 (atI v.sets ⟨n, t⟩))) [] := by
 refine ao az mixed Tryz.func112 (by kernel_rfl) rfl (Nat.le_of_ble_eq_true rfl) ?_; conv => whnf
 have hk := uH ⟨n, t⟩ v.sets 0
 unfold atI
 cases hf : v.sets.findIdx? (is ⟨n, t⟩) with
 | some k =>
  rw [hf] at hk
  refine ⟨some (.int .i64 k), by rw [Option.map_some, Nat.zero_add] at hk; exact hk, ?_⟩
  conv => whnf
  exact ae rfl rfl
 | none =>
  rw [hf] at hk
  refine ⟨none, hk, ?_⟩
  conv => whnf
  exact ae rfl rfl
theorem o7 (v : View) : NQ.Fn cx 116 [.ptr (bT v)] (.d (.int .i64 (atI v.sets ⟨v.apex, 4⟩))) [] := by
 refine ao az mixed Tryz.func116 (by kernel_rfl) rfl (Nat.le_of_ble_eq_true rfl) ?_; conv => whnf
 (refine ⟨_, _, gj v v.apex 4, ?_⟩; conv => whnf)
 exact ae rfl rfl
theorem AU (v : View) (n : Bs) (i : Nat) (s : Signed) (hs : v.sets[i]? = some s) : NQ.Fn cx 167 [.int .i64 i, .ptr [.ptr (bT v)], .ptr [.str n]] (.d (.bool (decide ((bR s.set.name n).1 >= 0)))) [] := by
 refine ao az mixed Tryz.func167 (by kernel_rfl) rfl (Nat.le_of_ble_eq_true rfl) ?_; conv => whnf
 (refine ⟨(by kernel_rfl : aH _ _ = true), ?_⟩; conv => whnf)
 refine ⟨Int.natCast_nonneg i, aj s, ax hs, ?_⟩
 conv => whnf
 (refine ⟨_, _, rK s.set.name n, ?_⟩; conv => whnf)
 exact ae rfl rfl
theorem pR (v : View) (n : Bs) (hn : v.sets.length <= 100000) (hr : cn v.sets) (hv : ∀ s ∈ v.sets, ah s.set.name = true) (hvn : ah n = true) : NQ.Fn cx 115 [.ptr (bT v), .str n] (.d (.bool (exB v.sets n))) [] := by
 refine ao az mixed Tryz.func115 (by kernel_rfl) rfl (Nat.le_of_ble_eq_true rfl) ?_; conv => whnf
 have hp := lj hr
 have hle := Hd v.sets n
 have hS := BI v.sets.length (lD v.sets n) (.ptr [.ptr (bT v)]) (.ptr [.str n]) hn hle (fun i hi => by
  obtain ⟨s, hs⟩ : ∃ s, v.sets[i]? = some s := ⟨_, List.getElem?_eq_getElem hi⟩
  have h := AU v n i s hs
  have e : decide ((bR s.set.name n).1 >= 0) = decide (lD v.sets n <= i) := by
   have hc : (bR s.set.name n).1 = av s.set.name n := by unfold bR; rw [if_pos ⟨hv s (List.mem_of_getElem? hs), hvn⟩]
   rw [hc, decide_eq_decide]
   exact (oQ hp hs).symm
  rwa [e] at h)
 have hl : ((v.sets.map aj).length : Int) = (v.sets.length : Int) := by rw [List.length_map]
 rw [hl]
 refine ⟨_, hS, rfl, ?_⟩
 conv => whnf
 (refine ⟨(by kernel_rfl : aH _ _ = true), ?_⟩; conv => whnf)
 rw [hl]
 unfold exB
 cases hg : v.sets[lD v.sets n]? with
 | none =>
  have : decide (((lD v.sets n : Nat) : Int) < (v.sets.length : Int)) = false := by
   rw [List.getElem?_eq_none_iff] at hg
   rw [decide_eq_false]; omega
  rw [this]
  conv => whnf
  exact ae rfl rfl
 | some s =>
  have : decide (((lD v.sets n : Nat) : Int) < (v.sets.length : Int)) = true := by
   have := (List.getElem?_eq_some_iff.1 hg).1
   rw [decide_eq_true]; omega
  rw [this]
  conv => whnf
  refine ⟨Int.natCast_nonneg _, aj s, ax hg, ?_⟩
  conv => whnf
  (refine ⟨_, _, vr s.set.name n, ?_⟩; conv => whnf)
  exact ae rfl rfl
theorem EZ (l : List Int) (x : Int) (hl : l.length <= 100000) : NQ.Fn cx 192 [.slice 1 (l.map b5), .int .i64 x] (.d (.int .i64 (match l.findIdx? (· == x) with | some k => (k : Int) | none => -1))) [] := by
 refine ao az mixed Tryz.func192 (by kernel_rfl) rfl (Nat.le_of_ble_eq_true rfl) ?_; conv => whnf
 refine ⟨Nat, fun k => ⟨[(0, .d (.slice 1 (l.map b5))), (1, .d (.int .i64 x)), (7, .d (.int .i64 ((l.map b5).length : Int))), (8, .d (.int .i64 k))], []⟩, fun k => k <= l.length /\ ∀ j y, j < k -> l[j]? = some y -> (y == x) = false, fun k => l.length - k,
  ⟨0, ⟨by omega, fun j y h => by omega⟩, ai.keep ⟨⟨rfl, rfl⟩, ⟨rfl, rfl⟩, ⟨rfl, rfl⟩, ⟨rfl, rfl⟩, trivial⟩ trivial⟩, fun k ⟨hk, hall⟩ => ?_⟩
 conv => whnf
 refine ab (fun h1 => ?_) (fun h1 => ?_) <;> (rw [h1]; conv => whnf)
 . have hlt : k < l.length := by simp at h1; omega
   obtain ⟨y, hy⟩ : ∃ s, l[k]? = some s := ⟨_, List.getElem?_eq_getElem hlt⟩
   refine ⟨Int.natCast_nonneg k, b5 y, ax hy, ?_⟩
   conv => whnf
   (refine ab (fun h => ?_) (fun h => ?_) <;> (rw [h]; conv => whnf))
   . refine ae rfl ?_
     have : l.findIdx? (· == x) = some k := by
      rw [List.findIdx?_eq_some_iff_getElem]
      refine ⟨hlt, ?_, fun j hj => ?_⟩
      . obtain ⟨_, e⟩ := List.getElem?_eq_some_iff.1 hy
        rw [e]; simp at h ⊢; exact h.symm
      . have := hall j l[j] hj (List.getElem?_eq_getElem (by omega))
        simpa using this
     rw [this]; rfl
   . refine ⟨k + 1, ⟨hlt, fun j z hj hz => ?_⟩, by (show l.length - (k + 1) < l.length - k; omega), ai.keep ⟨⟨rfl, rfl⟩, ⟨rfl, rfl⟩, ⟨rfl, rfl⟩, ⟨ak (by omega), rfl⟩, trivial⟩ trivial⟩
     rcases Nat.lt_or_eq_of_le (Nat.le_of_lt_succ hj) with h2 | rfl
     . exact hall j z h2 hz
     . rw [hy] at hz; cases hz
       simp at h ⊢; exact fun e => h e.symm
 . obtain rfl : k = l.length := by simp at h1; omega
   refine ae rfl ?_
   have : l.findIdx? (· == x) = none := by
    rw [List.findIdx?_eq_none_iff]
    intro y hy
    obtain ⟨j, hj⟩ := List.getElem?_of_mem hy
    exact hall j y (List.getElem?_eq_some_iff.1 hj).1 hj
   rw [this]; rfl
theorem yX (l : List Int) (x : Int) (hl : l.length <= 100000) : NQ.Fn cx 165 [.slice 1 (l.map b5), .int .i64 x] (.d (.bool (l.contains x))) [] := by
 refine ao az mixed Tryz.func165 (by kernel_rfl) rfl (Nat.le_of_ble_eq_true rfl) ?_; conv => whnf
 (refine ⟨_, _, EZ l x hl, ?_⟩; conv => whnf)
 refine ae rfl ?_
 show AV.d (D.bool (decide ((match l.findIdx? (· == x) with | some k => (k : Int) | none => -1) >= 0))) = _
 congr 2
 cases h : l.findIdx? (· == x) with
 | some k =>
  obtain ⟨h1, h2, _⟩ := List.findIdx?_eq_some_iff_getElem.1 h
  have : l.contains x = true := by
   rw [List.contains_iff_mem]
   have e : l[k] = x := by simpa using h2
   exact e ▸ List.getElem_mem h1
  rw [this, decide_eq_true]; exact Int.natCast_nonneg k
 | none =>
  have : l.contains x = false := by
   rw [<- Bool.not_eq_true, List.contains_iff_mem]
   intro hm
   have := List.findIdx?_eq_none_iff.1 h x hm
   simp at this
  rw [this]; rfl
end Go.Proofs.YtnbnldnfkikakaaGreatDoor

set_option maxRecDepth 100000
namespace NP
open NQ Go
structure Ans where
 kind : Int
 sets : List Signed
 cut : Bs
 deriving DecidableEq
def eh (a : Ans) : List D := [.int .i64 a.kind, .slice 5 (a.sets.map aj), .str a.cut]
def bC (l : List Signed) : List Int -> List Int -> List Signed
 | _, [] => []
 | seen, p :: t => if (decide (p < 0) || seen.contains p) = true then bC l (seen ++ [p]) t else (l[p.toNat]?).getD iZ :: bC l (seen ++ [p]) t
end NP
namespace Go.Proofs.YtnbnldnfkikakaaGreatDoor
open NQ Go NP Go.RowKit
theorem BF (l : List Int) (k : Nat) : ((l.map b5).drop ((0 : Nat) : Int).toNat).take (((k : Nat) : Int).toNat - ((0 : Nat) : Int).toNat) = (l.take k).map b5 := by
 simp [List.map_take]
theorem eQ (v : View) (kind : Int) (ps : List Int) (hn : ps.length <= 1000) (hp : ∀ p ∈ ps, p < v.sets.length) (hs : ∀ s ∈ v.sets, Small s) :
 FnB cx 114 (bT v) [.int .i64 kind, .slice 1 (ps.map b5)] (.agg ((eh ⟨kind, bC v.sets [] ps, []⟩).map .d)) (bT v) := by
 refine dO (fun _ => []) az mixed Tryz.func114 (by kernel_rfl) rfl (Nat.le_of_ble_eq_true rfl) (Nat.le_of_ble_eq_true rfl) ?_; conv => whnf
 refine ⟨Nat × List Signed, fun x => ⟨[(0, .ptr 100000 0), (2, .d (.slice 1 (ps.map b5))), (6, .ptr 6 0), (7, .ptr 7 0), (13, .d (.slice 1 (ps.map b5))), (14, .d (.int .i64 ((ps.map b5).length : Int))), (15, .d (.int .i64 x.1))],
     [(100000, .box ((bT v).map .d)), (6, .box [.d (.int .i64 0), .nil 5, .d (.str [])]), (7, .box [.d (.int .i64 kind), .own 200, .d (.str [])]), (200, .row 63 5 (x.2.map aj))]⟩,
  fun x => x.1 <= ps.length /\ x.2.length <= x.1 /\ x.2 ++ bC v.sets (ps.take x.1) (ps.drop x.1) = bC v.sets [] ps, fun x => ps.length - x.1,
  ⟨(0, []), ⟨by omega, by simp, by simp⟩, (ai.tN 7 1 200 5 [.d (.int .i64 kind), .nil 5, .d (.str [])] 63 5 rfl rfl rfl (by decide)).trans (ai.keep ⟨⟨rfl, rfl⟩, ⟨rfl, rfl⟩, ⟨rfl, rfl⟩, ⟨rfl, rfl⟩, ⟨rfl, rfl⟩, ⟨rfl, rfl⟩, ⟨rfl, rfl⟩, trivial⟩ ⟨⟨rfl, rfl⟩, ⟨rfl, rfl⟩, ⟨rfl, rfl⟩, ⟨rfl, rfl⟩, trivial⟩)⟩, ?_⟩
 rintro ⟨k, acc⟩ ⟨hk, hl, hc⟩
 simp only at hk hl hc
 conv => whnf
 refine ab (fun h1 => ?_) (fun h1 => ?_) <;> (rw [h1]; conv => whnf)
 . have hlt : k < ps.length := by simp at h1; omega
   obtain ⟨p, hpk⟩ : ∃ p, ps[k]? = some p := ⟨_, List.getElem?_eq_getElem hlt⟩
   rw [drop_cons hpk, bC, <- bF hpk] at hc
   refine ⟨Int.natCast_nonneg k, b5 p, ax hpk, ?_⟩
   conv => whnf
   have skip : (decide (p < 0) || (ps.take k).contains p) = true -> ∀ st, ai cx st ⟨[(0, .ptr 100000 0), (2, .d (.slice 1 (ps.map b5))), (6, .ptr 6 0), (7, .ptr 7 0), (13, .d (.slice 1 (ps.map b5))), (14, .d (.int .i64 ((ps.map b5).length : Int))), (15, .d (.int .i64 ((k + 1 : Nat) : Int)))],
    [(100000, .box ((bT v).map .d)), (6, .box [.d (.int .i64 0), .nil 5, .d (.str [])]), (7, .box [.d (.int .i64 kind), .own 200, .d (.str [])]), (200, .row 63 5 (acc.map aj))]⟩ ->
    ∃ y : Nat × List Signed, (y.1 <= ps.length /\ y.2.length <= y.1 /\ y.2 ++ bC v.sets (ps.take y.1) (ps.drop y.1) = bC v.sets [] ps) /\ ps.length - y.1 < ps.length - k /\ ai cx st ⟨[(0, .ptr 100000 0), (2, .d (.slice 1 (ps.map b5))), (6, .ptr 6 0), (7, .ptr 7 0), (13, .d (.slice 1 (ps.map b5))), (14, .d (.int .i64 ((ps.map b5).length : Int))), (15, .d (.int .i64 y.1))],
    [(100000, .box ((bT v).map .d)), (6, .box [.d (.int .i64 0), .nil 5, .d (.str [])]), (7, .box [.d (.int .i64 kind), .own 200, .d (.str [])]), (200, .row 63 5 (y.2.map aj))]⟩ := fun hb st hw => by
    rw [if_pos hb] at hc
    exact ⟨(k + 1, acc), ⟨hlt, by (show acc.length <= k + 1; omega), hc⟩, by (show ps.length - (k + 1) < ps.length - k; omega), hw⟩
   (refine ab (fun h => ?_) (fun h => ?_) <;> (rw [h]; conv => whnf))
   . exact skip (by rw [h]; rfl) _ (ai.keep ⟨⟨rfl, rfl⟩, ⟨rfl, rfl⟩, ⟨rfl, rfl⟩, ⟨rfl, rfl⟩, ⟨rfl, rfl⟩, ⟨rfl, rfl⟩, ⟨ak (by omega), rfl⟩, trivial⟩ ⟨⟨rfl, rfl⟩, ⟨rfl, rfl⟩, ⟨rfl, rfl⟩, ⟨rfl, rfl⟩, trivial⟩)
   have hp0 := h
   refine ⟨by omega, by omega, by (rw [List.length_map]; omega), ?_⟩
   conv => whnf
   rw [BF]
   (refine ⟨_, _, yX (ps.take k) p (by (rw [List.length_take]; omega)), ?_⟩; conv => whnf)
   (refine ab (fun h => ?_) (fun h => ?_) <;> (rw [h]; conv => whnf))
   . exact skip (by rw [h, Bool.or_true]) _ (ai.keep ⟨⟨rfl, rfl⟩, ⟨rfl, rfl⟩, ⟨rfl, rfl⟩, ⟨rfl, rfl⟩, ⟨rfl, rfl⟩, ⟨rfl, rfl⟩, ⟨ak (by omega), rfl⟩, trivial⟩ ⟨⟨rfl, rfl⟩, ⟨rfl, rfl⟩, ⟨rfl, rfl⟩, ⟨rfl, rfl⟩, trivial⟩)
   have hge : 0 <= p := by simp at hp0; omega
   have hplt := hp p (List.mem_of_getElem? hpk)
   obtain ⟨s, hsp⟩ : ∃ s, v.sets[p.toNat]? = some s := ⟨_, List.getElem?_eq_getElem (by omega)⟩
   have hsm := hs s (List.mem_of_getElem? hsp)
   rw [if_neg (by rw [hp0, h]; simp), hsp] at hc
   refine ⟨hge, aj s, by (rw [List.getElem?_map, hsp]; rfl), ?_⟩
   conv => whnf
   (refine ⟨_, _, pD _ (by simpa using hsm.1), ?_⟩; conv => whnf)
   (refine ⟨_, _, pE _ (by simpa using hsm.2), ?_⟩; conv => whnf)
   refine ⟨by (show (acc.map aj).length + 1 <= _; rw [List.length_map]; omega), by (show ((acc.map aj).length + 1) * 80 <= _; rw [List.length_map]; omega), ?_⟩
   conv => whnf
   refine ⟨(k + 1, acc ++ [s]), ⟨hlt, by (simp; omega), by (rw [<- hc]; simp)⟩, by (show ps.length - (k + 1) < ps.length - k; omega), ai.keep ⟨⟨rfl, rfl⟩, ⟨rfl, rfl⟩, ⟨rfl, rfl⟩, ⟨rfl, rfl⟩, ⟨rfl, rfl⟩, ⟨rfl, rfl⟩, ⟨ak (by omega), rfl⟩, trivial⟩ ⟨⟨rfl, rfl⟩, ⟨rfl, rfl⟩, ⟨rfl, rfl⟩, ⟨by (show some (Blk.row _ _ (_ ++ _)) = some (Blk.row _ _ _); rw [List.map_append]; rfl), rfl⟩, trivial⟩⟩
 . obtain rfl : k = ps.length := by simp at h1; omega
   rw [List.drop_length, bC, List.append_nil] at hc
   refine ⟨[200], _, _, rfl, ?_, rfl, rfl⟩
   rw [<- hc]
   rfl
end Go.Proofs.YtnbnldnfkikakaaGreatDoor

set_option maxRecDepth 100000
namespace NP
open NQ Go
end NP
namespace Go.Proofs.YtnbnldnfkikakaaGreatDoor
open NQ Go NP Go.RowKit
theorem rR (z : aq) (hv : aO z = true) : NQ.Fn cx 30 [.agg (aL z)] (.d (.int .i64 (gp z))) [] := by
 have ho := aW hv
 have hfew := ho.few
 refine ao az mixed Tryz.func30 (by kernel_rfl) rfl (Nat.le_of_ble_eq_true rfl) ?_; conv => whnf
 obtain ⟨k, s, hk, hs, hp⟩ := qH (rb.1 hv).start
 have fA := AF z ⟨z.apex, 4⟩ (by omega)
 rw [hk] at fA
 obtain ⟨d, hd⟩ := vH (ho.set s (List.mem_of_getElem? hs))
 have e : gp z = d.n := by
  unfold gp
  rw [Hz ho.rising.pw hs hp, hs]
  simp only [hd]
 (refine ⟨(by kernel_rfl : aH _ _ = true), ?_⟩; conv => whnf)
 (refine ⟨_, _, fA, ?_⟩; conv => whnf)
 refine ⟨Int.natCast_nonneg k, aj s, ax hs, ?_⟩
 conv => whnf
 refine ⟨by decide, bP d, by (show (s.set.data.map bP)[(0 : Int).toNat]? = _; simp [hd]), ?_⟩
 conv => whnf
 exact ae rfl (by rw [e]; rfl)
end Go.Proofs.YtnbnldnfkikakaaGreatDoor
