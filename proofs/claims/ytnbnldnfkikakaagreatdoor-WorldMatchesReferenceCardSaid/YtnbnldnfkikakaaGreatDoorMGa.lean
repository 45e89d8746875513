/-
  Texts of the proof of the law WorldMatchesReference, merged in build order.
-/
import Derived.Test.YtnbnldnfkikakaaGreatDoorMQrc
import Derived.Test.YtnbnldnfkikakaaGreatDoorMLrc
set_option linter.all false
set_option maxRecDepth 100000
namespace NP
open NQ Go
structure jd where
 name : Bs
 addr : Int
 owner : Int
 deriving DecidableEq
structure ai where
 host : Int
 zone : ao
 deriving DecidableEq
structure bt where
 hosts : List jd
 zones : List ai
 anchor : gI
 hints : List Int
def dq (h : jd) : List D := [.str h.name, .int .i64 h.addr, .int .i64 h.owner]
def aI (p : ai) : List D := [.int .i64 p.host, .str p.zone.apex, .slice 5 (p.zone.sets.map ag)]
def bD (w : bt) : List D := [.slice 3 (w.hosts.map dq), .slice 3 (w.zones.map aI), .str w.anchor.name, .int .i64 w.anchor.type, .int .i64 w.anchor.life, .slice 3 (w.anchor.data.map bB), .slice 1 (w.hints.map fun n => [.int .i64 n])]
def bK (f : ai -> Bool) : Nat -> List ai -> List (List D)
 | _, [] => []
 | i, p :: t => if f p = true then [.int .i64 i, .agg (aI p)] :: bK f (i + 1) t else bK f (i + 1) t
theorem mR (f : ai -> Bool) : ∀ (i : Nat) (a b : List ai), bK f i (a ++ b) = bK f i a ++ bK f (i + a.length) b
 | i, [], b => by simp [bK]
 | i, p :: t, b => by
  simp only [List.cons_append, bK]
  rw [mR f (i + 1) t b]
  have : i + 1 + t.length = i + (p :: t).length := by simp; omega
  rw [this]
  split <;> rfl
theorem ku {f : ai -> Bool} {l : List ai} {k : Nat} {p : ai} (h : l[k]? = some p) : bK f 0 (l.take (k + 1)) = bK f 0 (l.take k) ++ (if f p = true then [[.int .i64 k, .agg (aI p)]] else []) := by
 have hk := (List.getElem?_eq_some_iff.1 h).1
 rw [List.take_add_one, h, mR]
 have : (l.take k).length = k := by simp; omega
 rw [this]
 simp [bK]
theorem yp {f : ai -> Bool} {l : List ai} {k : Nat} {p : ai} (h : l[k]? = some p) (hf : f p = true) : (bK f 0 l)[(bK f 0 (l.take k)).length]? = some [.int .i64 k, .agg (aI p)] := by
 have e : l = l.take (k + 1) ++ l.drop (k + 1) := (List.take_append_drop ..).symm
 have h2 := mR f 0 (l.take (k + 1)) (l.drop (k + 1))
 rw [<- e] at h2
 rw [h2, ku h, if_pos hf]
 simp
end NP
namespace Go.Proofs.YtnbnldnfkikakaaGreatDoor
open NQ Go NP Go.RowKit
theorem yP (w : bt) (okf : FuncId) (x y : D) (f : ai -> Bool) (hf : ∀ p ∈ w.zones, NQ.Fn cx okf [.agg (aI p), x, y] (.d (.bool (f p))) []) (hc : cx.chg okf = 0) (hn : w.zones.length <= 100000) :
 uC cx 91 [.ptr (bD w), .ptr [.fn okf [] [x, y]]] (bK f 0 w.zones) := by
 refine rX (fun | 3 => [77777] | _ => []) ay mixed Tryz.func91 (by kernel_rfl) rfl rfl (Nat.le_of_ble_eq_true rfl) ?_
 conv => whnf
 refine ⟨rfl, ?_⟩
 conv => whnf
 refine ⟨Nat, fun k => (((bK f 0 (w.zones.take k)).length, true), ⟨[(1, .d (.ptr (bD w))), (2, .d (.ptr [.fn okf [] [x, y]])), (7, .d (.slice 3 (w.zones.map aI))), (8, .d (.int .i64 ((w.zones.map aI).length : Int))), (9, .d (.int .i64 k))], []⟩),
  fun k => k <= w.zones.length, fun k => w.zones.length - k, ⟨0, Nat.zero_le _, by simp [bK], ah.keep ⟨⟨rfl, rfl⟩, ⟨rfl, rfl⟩, ⟨rfl, rfl⟩, ⟨rfl, rfl⟩, ⟨rfl, rfl⟩, trivial⟩ trivial⟩, fun k hk => ?_⟩
 conv => whnf
 refine ⟨rfl, ?_⟩
 conv => whnf
 refine ab (fun h1 => ?_) (fun h1 => ?_) <;> (rw [h1]; conv => whnf)
 . obtain ⟨p, hp⟩ : ∃ p, w.zones[k]? = some p := ⟨_, List.getElem?_eq_getElem (by simpa using h1)⟩
   have hkl := (List.getElem?_eq_some_iff.1 hp).1
   refine ⟨rfl, ?_⟩
   conv => whnf
   refine ⟨Int.natCast_nonneg k, aI p, au hp, ?_⟩
   conv => whnf
   refine ⟨rfl, ?_⟩
   conv => whnf
   refine ⟨rfl, ?_⟩
   conv => whnf
   refine ⟨rfl, ?_⟩
   conv => whnf
   rw [hc]
   conv => whnf
   (refine ⟨_, _, hf p (List.mem_of_getElem? hp), ?_⟩; conv => whnf)
   repeat' (first | (refine ⟨rfl, ?_⟩; conv => whnf) | (refine ab (fun h => ?_) (fun h => ?_) <;> (rw [h]; conv => whnf)))
   . refine ⟨_, yp hp h, rfl, fun b => ?_⟩
     conv => whnf
     cases b with
     | true =>
      repeat' (first | (refine ⟨rfl, ?_⟩; conv => whnf) | fail)
      refine ⟨k + 1, by show k + 1 <= _; omega, by show w.zones.length - (k + 1) < w.zones.length - k; omega, ?_, ah.keep ⟨⟨rfl, rfl⟩, ⟨rfl, rfl⟩, ⟨rfl, rfl⟩, ⟨rfl, rfl⟩, ⟨aj (by omega), rfl⟩, trivial⟩ trivial⟩
      show ((bK f 0 (List.take (k + 1) w.zones)).length, true) = ((bK f 0 (List.take k w.zones)).length + 1, true)
      rw [ku hp, if_pos h]; simp
     | false =>
      repeat' (first | (refine ⟨rfl, ?_⟩; conv => whnf) | fail)
      exact ⟨trivial, fun h => by cases h⟩
   . refine ⟨k + 1, by show k + 1 <= _; omega, by show w.zones.length - (k + 1) < w.zones.length - k; omega, ?_, ah.keep ⟨⟨rfl, rfl⟩, ⟨rfl, rfl⟩, ⟨rfl, rfl⟩, ⟨rfl, rfl⟩, ⟨aj (by omega), rfl⟩, trivial⟩ trivial⟩
     show ((bK f 0 (List.take (k + 1) w.zones)).length, true) = ((bK f 0 (List.take k w.zones)).length, true)
     rw [ku hp, if_neg (by rw [h]; simp)]; simp
 . refine ⟨trivial, fun _ => ?_⟩
   obtain rfl : k = w.zones.length := by simp at h1; omega
   simp
theorem yQ (w : bt) (okf : FuncId) (x : D) (f : ai -> Bool) (hf : ∀ p ∈ w.zones, NQ.Fn cx okf [.agg (aI p), x] (.d (.bool (f p))) []) (hc : cx.chg okf = 0) (hn : w.zones.length <= 100000) :
 uC cx 91 [.ptr (bD w), .ptr [.fn okf [] [x]]] (bK f 0 w.zones) := by
 refine rX (fun | 3 => [77777] | _ => []) ay mixed Tryz.func91 (by kernel_rfl) rfl rfl (Nat.le_of_ble_eq_true rfl) ?_
 conv => whnf
 refine ⟨rfl, ?_⟩
 conv => whnf
 refine ⟨Nat, fun k => (((bK f 0 (w.zones.take k)).length, true), ⟨[(1, .d (.ptr (bD w))), (2, .d (.ptr [.fn okf [] [x]])), (7, .d (.slice 3 (w.zones.map aI))), (8, .d (.int .i64 ((w.zones.map aI).length : Int))), (9, .d (.int .i64 k))], []⟩),
  fun k => k <= w.zones.length, fun k => w.zones.length - k, ⟨0, Nat.zero_le _, by simp [bK], ah.keep ⟨⟨rfl, rfl⟩, ⟨rfl, rfl⟩, ⟨rfl, rfl⟩, ⟨rfl, rfl⟩, ⟨rfl, rfl⟩, trivial⟩ trivial⟩, fun k hk => ?_⟩
 conv => whnf
 refine ⟨rfl, ?_⟩
 conv => whnf
 refine ab (fun h1 => ?_) (fun h1 => ?_) <;> (rw [h1]; conv => whnf)
 . obtain ⟨p, hp⟩ : ∃ p, w.zones[k]? = some p := ⟨_, List.getElem?_eq_getElem (by simpa using h1)⟩
   have hkl := (List.getElem?_eq_some_iff.1 hp).1
   refine ⟨rfl, ?_⟩
   conv => whnf
   refine ⟨Int.natCast_nonneg k, aI p, au hp, ?_⟩
   conv => whnf
   refine ⟨rfl, ?_⟩
   conv => whnf
   refine ⟨rfl, ?_⟩
   conv => whnf
   refine ⟨rfl, ?_⟩
   conv => whnf
   rw [hc]
   conv => whnf
   (refine ⟨_, _, hf p (List.mem_of_getElem? hp), ?_⟩; conv => whnf)
   repeat' (first | (refine ⟨rfl, ?_⟩; conv => whnf) | (refine ab (fun h => ?_) (fun h => ?_) <;> (rw [h]; conv => whnf)))
   . refine ⟨_, yp hp h, rfl, fun b => ?_⟩
     conv => whnf
     cases b with
     | true =>
      repeat' (first | (refine ⟨rfl, ?_⟩; conv => whnf) | fail)
      refine ⟨k + 1, by show k + 1 <= _; omega, by show w.zones.length - (k + 1) < w.zones.length - k; omega, ?_, ah.keep ⟨⟨rfl, rfl⟩, ⟨rfl, rfl⟩, ⟨rfl, rfl⟩, ⟨rfl, rfl⟩, ⟨aj (by omega), rfl⟩, trivial⟩ trivial⟩
      show ((bK f 0 (List.take (k + 1) w.zones)).length, true) = ((bK f 0 (List.take k w.zones)).length + 1, true)
      rw [ku hp, if_pos h]; simp
     | false =>
      repeat' (first | (refine ⟨rfl, ?_⟩; conv => whnf) | fail)
      exact ⟨trivial, fun h => by cases h⟩
   . refine ⟨k + 1, by show k + 1 <= _; omega, by show w.zones.length - (k + 1) < w.zones.length - k; omega, ?_, ah.keep ⟨⟨rfl, rfl⟩, ⟨rfl, rfl⟩, ⟨rfl, rfl⟩, ⟨rfl, rfl⟩, ⟨aj (by omega), rfl⟩, trivial⟩ trivial⟩
     show ((bK f 0 (List.take (k + 1) w.zones)).length, true) = ((bK f 0 (List.take k w.zones)).length, true)
     rw [ku hp, if_neg (by rw [h]; simp)]; simp
 . refine ⟨trivial, fun _ => ?_⟩
   obtain rfl : k = w.zones.length := by simp at h1; omega
   simp
end Go.Proofs.YtnbnldnfkikakaaGreatDoor

set_option maxRecDepth 100000
namespace Go.Proofs.YtnbnldnfkikakaaGreatDoor
open NQ Go NP Go.RowKit
theorem wu (w : bt) (okf : FuncId) (caps : List D) : NQ.Fn cx 38 [.agg (bD w), .fn okf [] caps] (.d (.fn 91 [] [.ptr (bD w), .ptr [.fn okf [] caps]])) [] := by
 refine cH (fun | 1 => [2, 3] | _ => []) ay mixed Tryz.func38 (by kernel_rfl) rfl (Nat.le_of_ble_eq_true rfl) ?_
 conv => whnf
 exact ae rfl rfl
theorem vr (s a : Bs) : NQ.Fn cx 40 [.str s, .str a] (.d (.bool (aM s a).1)) [] := by
 refine aq ay mixed Tryz.func40 (by kernel_rfl) rfl (Nat.le_of_ble_eq_true rfl) ?_; conv => whnf
 (refine ⟨_, _, mW s a, ?_⟩; conv => whnf)
 exact ae rfl rfl
theorem Dw (s : Bs) (p : ai) : NQ.Fn cx 50 [.agg (aI p), .ptr [.str s]] (.d (.bool (aM s p.zone.apex).1)) [] := by
 refine aq ay mixed Tryz.func50 (by kernel_rfl) rfl (Nat.le_of_ble_eq_true rfl) ?_; conv => whnf
 (refine ⟨_, _, vr s p.zone.apex, ?_⟩; conv => whnf)
 exact ae rfl rfl
theorem Gi (host : Int) (q : av) (p : ai) : NQ.Fn cx 39 [.agg (aI p), .ptr [.int .i64 host], .ptr (bq q)] (.d (.bool (decide (p.host = host) && (aM q.name p.zone.apex).1))) [] := by
 refine aq ay mixed Tryz.func39 (by kernel_rfl) rfl (Nat.le_of_ble_eq_true rfl) ?_; conv => whnf
 repeat' (first | (refine ⟨_, _, vr q.name p.zone.apex, ?_⟩; conv => whnf) | (refine ab (fun h => ?_) (fun h => ?_) <;> (rw [h]; conv => whnf)) | fail)
 all_goals (refine ae rfl ?_; show AV.d (D.bool _) = AV.d (D.bool _); congr 2; simp_all; done)
end Go.Proofs.YtnbnldnfkikakaaGreatDoor
namespace NP
open NQ Go
def cr (s : Bs) : Int := ((cz s).1.length : Int)
end NP
namespace Go.Proofs.YtnbnldnfkikakaaGreatDoor
open NQ Go NP Go.RowKit
theorem pB (s : Bs) : NQ.Fn cx 43 [.str s] (.d (.int .i64 (cr s))) [] := by
 refine aq ay mixed Tryz.func43 (by kernel_rfl) rfl (Nat.le_of_ble_eq_true rfl) ?_; conv => whnf
 (refine ⟨_, _, qO s, ?_⟩; conv => whnf)
 refine ae rfl ?_
 show AV.d (.int .i64 (((cz s).1.map aB).length : Int)) = _
 rw [List.length_map]; rfl
end Go.Proofs.YtnbnldnfkikakaaGreatDoor

set_option maxRecDepth 100000
namespace NP
open NQ Go
def dW (s : Bs) : List ai -> Bs × Int -> Bs × Int
 | [], b => b
 | p :: t, b => dW s t (if (aM s p.zone.apex).1 = true /\ b.2 < cr p.zone.apex then (p.zone.apex, cr p.zone.apex) else b)
def dP (valid : Bool) (w : bt) (s : Bs) : Bs × Int :=
 if (valid && af s) = false then ([], 1) else if (dW s w.zones ([], -1)).2 < 0 then ([], 4) else ((dW s w.zones ([], -1)).1, 0)
theorem mQ (f : ai -> Bool) : ∀ (i : Nat) (l : List ai) (k : Nat) (x : List D), (bK f i l)[k]? = some x -> ∃ j p, x = [.int .i64 (j : Nat), .agg (aI p)] /\ (l.filter f)[k]? = some p
 | i, [], k, x, h => by simp [bK] at h
 | i, p :: t, k, x, h => by
  unfold bK at h
  by_cases hp : f p = true
  . rw [if_pos hp] at h
    rw [List.filter_cons_of_pos hp]
    cases k with
    | zero => cases h; exact ⟨i, p, rfl, rfl⟩
    | succ k => exact mQ f (i + 1) t k x (by simpa using h)
  . rw [if_neg hp] at h
    rw [List.filter_cons_of_neg hp]
    exact mQ f (i + 1) t k x h
theorem we (f : ai -> Bool) (i : Nat) (l : List ai) (x : List D) (h : x ∈ bK f i l) : x.length = 2 := by
 obtain ⟨k, hk⟩ := List.getElem?_of_mem h
 obtain ⟨j, p, rfl, _⟩ := mQ f i l k x hk
 rfl
theorem mi (f : ai -> Bool) : ∀ (i : Nat) (l : List ai), (bK f i l).length = (l.filter f).length
 | i, [] => rfl
 | i, p :: t => by
  unfold bK
  by_cases hp : f p = true
  . rw [if_pos hp, List.filter_cons_of_pos hp, List.length_cons, List.length_cons, mi f (i + 1) t]
  . rw [if_neg hp, List.filter_cons_of_neg hp, mi f (i + 1) t]
def hAt (s : Bs) (w : bt) (k : Nat) : Bs × Int := dW s ((w.zones.filter fun p => (aM s p.zone.apex).1).take k) ([], -1)
theorem ym (s : Bs) : ∀ (a : List ai) (p : ai) (b : Bs × Int), dW s (a ++ [p]) b = dW s [p] (dW s a b)
 | [], p, b => rfl
 | x :: a, p, b => ym s a p _
theorem yo {s : Bs} {w : bt} {k : Nat} {p : ai} (h : (w.zones.filter fun p => (aM s p.zone.apex).1)[k]? = some p) : hAt s w (k + 1) = if (hAt s w k).2 < cr p.zone.apex then (p.zone.apex, cr p.zone.apex) else hAt s w k := by
 have hu : (aM s p.zone.apex).1 = true := (List.mem_filter.1 (List.mem_of_getElem? h)).2
 unfold hAt
 rw [List.take_add_one, h]
 show dW s (_ ++ [p]) _ = _
 rw [ym]
 simp only [dW, hu, true_and]
theorem nQ (s : Bs) : ∀ (l : List ai) (b : Bs × Int), dW s (l.filter fun p => (aM s p.zone.apex).1) b = dW s l b
 | [], b => rfl
 | p :: t, b => by
  by_cases hp : (aM s p.zone.apex).1 = true
  . rw [List.filter_cons_of_pos (p := fun p : ai => (aM s p.zone.apex).1) hp]; exact nQ s t _
  . rw [List.filter_cons_of_neg (p := fun p : ai => (aM s p.zone.apex).1) hp, nQ s t b]
    show _ = dW s t (if _ then _ else b)
    rw [if_neg (fun h => hp h.1)]
theorem AI (s : Bs) (w : bt) : hAt s w (bK (fun p => (aM s p.zone.apex).1) 0 w.zones).length = dW s w.zones ([], -1) := by
 rw [mi]
 unfold hAt
 rw [List.take_length, nQ]
theorem xu (x y : Blk) : ∀ q ∈ [100006, 100007], live [(100006, x), (100007, y)] q := fun q hq => by
 rcases List.mem_cons.1 hq with rfl | hq
 . exact aw.2 ⟨x, aF ..⟩
 . rcases List.mem_cons.1 hq with rfl | hq
   . exact aw.2 ⟨y, by rw [aO _ _ (by omega), aF]⟩
   . cases hq
end NP
namespace Go.Proofs.YtnbnldnfkikakaaGreatDoor
open NQ Go NP Go.RowKit
theorem Hz (w : bt) (s : Bs) (v : Bool) (hv : NQ.Fn cx 19 [.agg (bD w)] (.d (.bool v)) []) (hn : w.zones.length <= 100000) : NQ.Fn cx 16 [.agg (bD w), .str s] (.tuple [.d (.str (dP v w s).1), .d (.int .i64 (dP v w s).2)]) [] := by
 refine wh (fun | 4 => [3] | _ => []) ay mixed Tryz.func16 (by kernel_rfl) rfl (Nat.le_of_ble_eq_true rfl) ?_
 conv => whnf
 repeat' (first | (refine ⟨_, _, hv, ?_⟩; conv => whnf) | (refine ⟨_, _, jM s, ?_⟩; conv => whnf) | (refine ab (fun h => ?_) (fun h => ?_) <;> (rw [h]; conv => whnf)) | fail)
 . have e : dP v w s = ([], 1) := by unfold dP; simp_all
   rw [e]
   exact ae rfl rfl
 . have e : dP v w s = ([], 1) := by unfold dP; simp_all
   rw [e]
   exact ae rfl rfl
 (refine ⟨_, _, wu w _ _, ?_⟩; conv => whnf)
 refine ⟨91, _, _, [(6, .ptr 100006 0), (7, .ptr 100007 0), (21, .d (.fn 91 [] [.ptr (bD w), .ptr [.fn 50 [] [.ptr [.str s]]]]))],
  fun k => [(100006, .box [.d (.str (hAt s w k).1)]), (100007, .box [.d (.int .i64 (hAt s w k).2)])], [100006, 100007], (lz.ren [6, 7] (by kernel_rfl)).trans (ah.zero (ah.keep ⟨⟨(by kernel_rfl), (by kernel_rfl)⟩, ⟨(by kernel_rfl), (by kernel_rfl)⟩, ⟨(by kernel_rfl), (by kernel_rfl)⟩, trivial⟩ ⟨⟨(by kernel_rfl), (by kernel_rfl)⟩, ⟨(by kernel_rfl), (by kernel_rfl)⟩, trivial⟩)),
  ⟨rfl, yQ w 50 (.ptr [.str s]) (fun p => (aM s p.zone.apex).1) (fun p _ => Dw s p) rfl hn, ?_, rfl, rfl⟩, ⟨Nat.le_of_ble_eq_true rfl, ?_, rfl, by kernel_rfl⟩, ?_, ?_⟩
 . intro x hx
   exact we _ _ _ x hx
 . intro q hq
   rcases List.mem_cons.1 hq with rfl | hq
   . exact ⟨by omega, [.d (.str (hAt s w 0).1)], by kernel_rfl⟩
   . rcases List.mem_cons.1 hq with rfl | hq
     . exact ⟨by omega, [.d (.int .i64 (hAt s w 0).2)], by kernel_rfl⟩
     . cases hq
 . intro k x hx
   obtain ⟨i, p, rfl, hp⟩ := mQ _ _ _ k x hx
   conv => whnf
   (refine ⟨_, _, pB p.zone.apex, ?_⟩; conv => whnf)
   refine ab (fun h3 => ?_) (fun h3 => ?_) <;> (rw [h3]; conv => whnf)
   . have e : hAt s w (k + 1) = (p.zone.apex, cr p.zone.apex) := by rw [yo hp, if_pos (by simpa using h3)]
     refine ⟨?_, fun q hq => ?_⟩
     . show ah cx _ ⟨[], [(100006, .box [.d (.str (hAt s w (k + 1)).1)]), (100007, .box [.d (.int .i64 (hAt s w (k + 1)).2)])]⟩
       rw [e]
       exact ah.keep trivial ⟨⟨(by kernel_rfl), (by kernel_rfl)⟩, ⟨(by kernel_rfl), (by kernel_rfl)⟩, trivial⟩
     . exact xu _ _ q hq
   . have e : hAt s w (k + 1) = hAt s w k := by rw [yo hp, if_neg (by simpa using h3)]
     refine ⟨?_, fun q hq => ?_⟩
     . show ah cx _ ⟨[], [(100006, .box [.d (.str (hAt s w (k + 1)).1)]), (100007, .box [.d (.int .i64 (hAt s w (k + 1)).2)])]⟩
       rw [e]
       exact ah.keep trivial ⟨⟨(by kernel_rfl), (by kernel_rfl)⟩, ⟨(by kernel_rfl), (by kernel_rfl)⟩, trivial⟩
     . exact xu _ _ q hq
 . conv => whnf
   rw [AI]
   (refine ab (fun h => ?_) (fun h => ?_) <;> (rw [h]; conv => whnf))
   . have e : dP v w s = ([], 4) := by unfold dP; simp_all
     rw [e]
     exact ae rfl rfl
   . have e : dP v w s = ((dW s w.zones ([], -1)).1, 0) := by unfold dP; simp_all
     rw [e]
     refine ae rfl ?_
     rw [AI]
     rfl
end Go.Proofs.YtnbnldnfkikakaaGreatDoor

set_option maxRecDepth 100000
namespace Go.Proofs.YtnbnldnfkikakaaGreatDoor
open NQ Go NP Go.RowKit
theorem E7 (p q : ai) : NQ.Fn cx 95 [.agg (aI p), .agg (aI q)] (.d (.bool (decide ((eH p.zone).1 > (eH q.zone).1) || (decide ((eH p.zone).1 = (eH q.zone).1) && decide (p.host < q.host))))) [] := by
 refine aq ay mixed Tryz.func95 (by kernel_rfl) rfl (Nat.le_of_ble_eq_true rfl) ?_; conv => whnf
 (refine ⟨_, _, vG p.zone, ?_⟩; conv => whnf)
 (refine ⟨_, _, vG q.zone, ?_⟩; conv => whnf)
 repeat' (first | (refine ab (fun h => ?_) (fun h => ?_) <;> (rw [h]; conv => whnf)) | fail)
 all_goals (refine ae rfl ?_; show AV.d (D.bool _) = AV.d (D.bool _); congr 2 <;> simp_all)
end Go.Proofs.YtnbnldnfkikakaaGreatDoor

set_option maxRecDepth 100000
namespace NP
open NQ Go
def dR (n : Int) : Bool := decide (n >= 1) && decide (n <= 1000000)
def ot (s : Bs) : Bool := (cz s).1.head? == some [42]
theorem Ek {s : Bs} (h : af s = true) : ot s = cO s := by
 rw [vq h]; unfold ot cz; rw [if_pos h]
def vi (l : List Int) : List (List D × D) := l.map fun a => ([.tuple [.int .i64 a]], .bool true)
theorem qJ (a : Int) : ∀ l : List Int, kg (.int .i64 a) (vi l) = some (if l.contains a = true then some (.bool true) else none)
 | [] => rfl
 | x :: l => by
  show (match fp (.int .i64 a) [.tuple [.int .i64 x]] with | some true => _ | some false => kg (.int .i64 a) (vi l) | none => none) = _
  have : fp (.int .i64 a) [.tuple [.int .i64 x]] = some (a == x) := by simp [fp]
  rw [this]
  cases h : (a == x) with
  | true => have e : a = x := by simpa using h
            subst e; simp
  | false => simp only [List.contains_cons, h, Bool.false_or]; exact qJ a l
theorem Gn {a : Int} {l : List Int} (h : l.contains a = false) : qS (.int .i64 a) (.bool true) (vi l) = some (vi (l ++ [a])) := by
 rw [Be (by rw [qJ, h]; rfl)]
 simp [vi]
def gX : List Int -> List jd -> Bool
 | _, [] => true
 | seen, h :: t => !(!af h.name || ot h.name || decide (h.owner < 0) || decide (h.owner >= 32)) && !(!dR h.addr || seen.contains h.addr) && gX (seen ++ [h.addr]) t
def jq (l : List jd) : Bool := decide ((l.length : Int) <= 64) && gX [] l
theorem tY {l : List jd} {k : Nat} {h : jd} (hh : l[k]? = some h) (seen : List Int) : gX seen (l.drop k) = (!(!af h.name || ot h.name || decide (h.owner < 0) || decide (h.owner >= 32)) && !(!dR h.addr || seen.contains h.addr) && gX (seen ++ [h.addr]) (l.drop (k + 1))) := by
 rw [drop_cons hh]; rfl
def lf (s : gI) (hints : List Int) : Bool := df s && (s.type == 6) && (s.name == [46]) && decide ((hints.length : Int) >= 1) && decide ((hints.length : Int) <= 8) && hints.all dR
end NP
namespace Go.Proofs.YtnbnldnfkikakaaGreatDoor
open NQ Go NP Go.RowKit
theorem vt (q : av) : NQ.Fn cx 35 [.agg (bq q)] (.d (.bool (aL q))) [] := by
 refine aq ay mixed Tryz.func35 (by kernel_rfl) rfl (Nat.le_of_ble_eq_true rfl) ?_; conv => whnf
 (refine ⟨_, _, jM q.name, ?_⟩; conv => whnf)
 repeat' (first | (refine ab (fun h => ?_) (fun h => ?_) <;> (rw [h]; conv => whnf)) | (refine ae rfl ?_; show AV.d (D.bool false) = _; (try simp only [List.length_map] at *); simp only [aL, *, if_true, if_false, Bool.false_eq_true, Bool.not_true, Bool.not_false, Bool.not_not, Bool.true_or, Bool.or_true, Bool.false_or, Bool.or_false, Bool.and_true, Bool.true_and, Bool.false_and, Bool.and_false]; done) | (refine ae rfl ?_; show AV.d (D.bool true) = _; (try simp only [List.length_map] at *); simp only [aL, *, if_true, if_false, Bool.false_eq_true, Bool.not_true, Bool.not_false, Bool.not_not, Bool.true_or, Bool.or_true, Bool.false_or, Bool.or_false, Bool.and_true, Bool.true_and, Bool.false_and, Bool.and_false]; done) | fail)
 all_goals (refine ae rfl ?_; show AV.d (D.bool _) = AV.d (D.bool _); congr 2; simp_all [aL])
theorem xl (n : Int) : NQ.Fn cx 98 [.int .i64 n] (.d (.bool (dR n))) [] := by
 refine aq ay mixed Tryz.func98 (by kernel_rfl) rfl (Nat.le_of_ble_eq_true rfl) ?_; conv => whnf
 repeat' (first | (refine ab (fun h => ?_) (fun h => ?_) <;> (rw [h]; conv => whnf)) | fail)
 all_goals (refine ae rfl ?_; show AV.d (D.bool _) = AV.d (D.bool _); congr 2; unfold dR; simp only [*, if_true, if_false, Bool.false_eq_true, Bool.not_true, Bool.not_false, Bool.not_not, Bool.true_or, Bool.or_true, Bool.false_or, Bool.or_false, Bool.and_true, Bool.true_and, Bool.false_and, Bool.and_false])
theorem Em (n : Int) : NQ.Fn cx 100 [.int .i64 n] (.d (.bool (!dR n))) [] := by
 refine aq ay mixed Tryz.func100 (by kernel_rfl) rfl (Nat.le_of_ble_eq_true rfl) ?_; conv => whnf
 (refine ⟨_, _, xl n, ?_⟩; conv => whnf)
 exact ae rfl rfl
theorem El (s : Bs) : NQ.Fn cx 97 [.str s] (.d (.bool (ot s))) [] := by
 refine aq ay mixed Tryz.func97 (by kernel_rfl) rfl (Nat.le_of_ble_eq_true rfl) ?_; conv => whnf
 (refine ⟨_, _, qO s, ?_⟩; conv => whnf)
 (refine ab (fun h => ?_) (fun h => ?_) <;> (rw [h]; conv => whnf))
 . cases hl : (cz s).1 with
   | nil => rw [hl] at h; simp at h
   | cons x t =>
    refine ⟨by decide, aB x, rfl, ?_⟩
    conv => whnf
    refine ae rfl ?_
    show AV.d (D.bool _) = AV.d (D.bool _)
    congr 2
    unfold ot; rw [hl]
    simp
 . refine ae rfl ?_
   show AV.d (D.bool _) = AV.d (D.bool _)
   congr 2
   unfold ot
   cases hl : (cz s).1 with
   | nil => rfl
   | cons x t => rw [hl] at h; simp at h
theorem Ds (l : List Int) (p : Int -> Bool) (hn : l.length <= 100000) (hf : ∀ s ∈ l, NQ.Fn cx 100 [.int .i64 s] (.d (.bool (p s))) []) :
 NQ.Fn cx 152 [.slice 1 (l.map cq), .fn 100 [] []] (.d (.int .i64 (match l.findIdx? p with | some k => (k : Int) | none => -1))) [] := by
 refine aq ay mixed Tryz.func152 (by kernel_rfl) rfl (Nat.le_of_ble_eq_true rfl) ?_; conv => whnf
 refine ⟨Nat, fun k => ⟨[(0, .d (.slice 1 (l.map cq))), (1, .d (.fn 100 [] [])), (6, .d (.slice 1 (l.map cq))), (7, .d (.int .i64 ((l.map cq).length : Int))), (8, .d (.int .i64 k))], []⟩, fun k => k <= l.length /\ ∀ j y, j < k -> l[j]? = some y -> p y = false, fun k => l.length - k,
  ⟨0, ⟨by omega, fun j y h => by omega⟩, ah.keep ⟨⟨rfl, rfl⟩, ⟨rfl, rfl⟩, ⟨rfl, rfl⟩, ⟨rfl, rfl⟩, ⟨rfl, rfl⟩, trivial⟩ trivial⟩, fun k hk => ?_⟩
 obtain ⟨hk, hall⟩ := hk
 conv => whnf
 refine ab (fun h1 => ?_) (fun h1 => ?_) <;> (rw [h1]; conv => whnf)
 . have hlt : k < l.length := by simp at h1; omega
   obtain ⟨s, hs⟩ : ∃ s, l[k]? = some s := ⟨_, List.getElem?_eq_getElem hlt⟩
   refine ⟨Int.natCast_nonneg k, cq s, au hs, ?_⟩
   conv => whnf
   (refine ⟨_, _, hf s (List.mem_of_getElem? hs), ?_⟩; conv => whnf)
   refine ab (fun h2 => ?_) (fun h2 => ?_) <;> (rw [h2]; conv => whnf)
   . refine ae rfl ?_
     have : l.findIdx? p = some k := by
      rw [List.findIdx?_eq_some_iff_getElem]
      obtain ⟨g1, g2⟩ := List.getElem?_eq_some_iff.1 hs
      refine ⟨g1, by rw [g2]; exact h2, fun j hj => ?_⟩
      have := hall j (l[j]) hj (List.getElem?_eq_getElem (by omega))
      rw [this]; decide
     rw [this]; rfl
   . refine ⟨k + 1, ⟨hlt, fun j y hj hy => ?_⟩, by (show l.length - (k + 1) < l.length - k; omega), ah.keep ⟨⟨rfl, rfl⟩, ⟨rfl, rfl⟩, ⟨rfl, rfl⟩, ⟨rfl, rfl⟩, ⟨aj (by omega), rfl⟩, trivial⟩ trivial⟩
     rcases Nat.lt_succ_iff_lt_or_eq.1 hj with hj | rfl
     . exact hall j y hj hy
     . rw [hs] at hy; cases hy; exact h2
 . obtain rfl : k = l.length := by simp at h1; omega
   refine ae rfl ?_
   have : l.findIdx? p = none := by
    rw [List.findIdx?_eq_none_iff]
    intro x hx
    obtain ⟨i, hi⟩ := List.getElem?_of_mem hx
    exact hall i x (List.getElem?_eq_some_iff.1 hi).1 hi
   rw [this]; rfl
theorem Io (h : jd) (a : Int) : NQ.Fn cx 37 [.agg (dq h), .ptr [.int .i64 a]] (.d (.bool (h.addr == a))) [] := by
 refine aq ay mixed Tryz.func37 (by kernel_rfl) rfl (Nat.le_of_ble_eq_true rfl) ?_; conv => whnf
 exact ae rfl rfl
theorem BO (l : List jd) (p : jd -> Bool) (x : D) (hn : l.length <= 100000) (hf : ∀ s ∈ l, NQ.Fn cx 37 [.agg (dq s), x] (.d (.bool (p s))) []) :
 NQ.Fn cx 36 [.slice 3 (l.map dq), .fn 37 [] [x]] (.d (.int .i64 (match l.findIdx? p with | some k => (k : Int) | none => -1))) [] := by
 refine aq ay mixed Tryz.func36 (by kernel_rfl) rfl (Nat.le_of_ble_eq_true rfl) ?_; conv => whnf
 refine ⟨Nat, fun k => ⟨[(0, .d (.slice 3 (l.map dq))), (1, .d (.fn 37 [] [x])), (7, .d (.int .i64 ((l.map dq).length : Int))), (8, .d (.int .i64 k))], []⟩, fun k => k <= l.length /\ ∀ j y, j < k -> l[j]? = some y -> p y = false, fun k => l.length - k,
  ⟨0, ⟨by omega, fun j y h => by omega⟩, ah.keep ⟨⟨rfl, rfl⟩, ⟨rfl, rfl⟩, ⟨rfl, rfl⟩, ⟨rfl, rfl⟩, trivial⟩ trivial⟩, fun k hk => ?_⟩
 obtain ⟨hk, hall⟩ := hk
 conv => whnf
 refine ab (fun h1 => ?_) (fun h1 => ?_) <;> (rw [h1]; conv => whnf)
 . have hlt : k < l.length := by simp at h1; omega
   obtain ⟨s, hs⟩ : ∃ s, l[k]? = some s := ⟨_, List.getElem?_eq_getElem hlt⟩
   refine ⟨Int.natCast_nonneg k, dq s, au hs, ?_⟩
   conv => whnf
   (refine ⟨_, _, hf s (List.mem_of_getElem? hs), ?_⟩; conv => whnf)
   refine ab (fun h2 => ?_) (fun h2 => ?_) <;> (rw [h2]; conv => whnf)
   . refine ae rfl ?_
     have : l.findIdx? p = some k := by
      rw [List.findIdx?_eq_some_iff_getElem]
      obtain ⟨g1, g2⟩ := List.getElem?_eq_some_iff.1 hs
      refine ⟨g1, by rw [g2]; exact h2, fun j hj => ?_⟩
      have := hall j (l[j]) hj (List.getElem?_eq_getElem (by omega))
      rw [this]; decide
     rw [this]; rfl
   . refine ⟨k + 1, ⟨hlt, fun j y hj hy => ?_⟩, by (show l.length - (k + 1) < l.length - k; omega), ah.keep ⟨⟨rfl, rfl⟩, ⟨rfl, rfl⟩, ⟨rfl, rfl⟩, ⟨aj (by omega), rfl⟩, trivial⟩ trivial⟩
     rcases Nat.lt_succ_iff_lt_or_eq.1 hj with hj | rfl
     . exact hall j y hj hy
     . rw [hs] at hy; cases hy; exact h2
 . obtain rfl : k = l.length := by simp at h1; omega
   refine ae rfl ?_
   have : l.findIdx? p = none := by
    rw [List.findIdx?_eq_none_iff]
    intro x hx
    obtain ⟨i, hi⟩ := List.getElem?_of_mem hx
    exact hall i x (List.getElem?_eq_some_iff.1 hi).1 hi
   rw [this]; rfl
theorem xk (l : List Int) (hl : l.length <= 100000) : NQ.Fn cx 99 [.slice 1 (l.map cq), .fn 100 [] []] (.d (.bool (!l.all dR))) [] := by
 refine aq ay mixed Tryz.func99 (by kernel_rfl) rfl (Nat.le_of_ble_eq_true rfl) ?_; conv => whnf
 (refine ⟨_, _, Ds l (fun n => !dR n) hl (fun s _ => Em s), ?_⟩; conv => whnf)
 refine ae rfl ?_
 show AV.d (D.bool (decide ((match l.findIdx? (fun n => !dR n) with | some k => (k : Int) | none => -1) >= 0))) = _
 congr 2
 cases h : l.findIdx? (fun n => !dR n) with
 | some k =>
  obtain ⟨h1, h2, _⟩ := List.findIdx?_eq_some_iff_getElem.1 h
  rw [decide_eq_true (Int.natCast_nonneg k)]
  have : l.all dR = false := by
   rw [<- Bool.not_eq_true, List.all_eq_true]
   intro hall
   rw [hall _ (List.getElem_mem h1)] at h2; cases h2
  rw [this]; rfl
 | none =>
  have : l.all dR = true := by
   rw [List.all_eq_true]
   intro x hx
   have := List.findIdx?_eq_none_iff.1 h x hx
   simpa using this
  rw [this]; rfl
theorem xq (s : gI) (hints : List Int) (hl : hints.length <= 100000) : NQ.Fn cx 55 [.agg (kK s), .slice 1 (hints.map cq)] (.d (.bool (lf s hints))) [] := by
 refine aq ay mixed Tryz.func55 (by kernel_rfl) rfl (Nat.le_of_ble_eq_true rfl) ?_; conv => whnf
 (refine ⟨_, _, rP s, ?_⟩; conv => whnf)
 repeat' (first | (refine ab (fun h => ?_) (fun h => ?_) <;> (rw [h]; conv => whnf)) | fail)
 all_goals first
  | (refine ae rfl ?_; show AV.d (D.bool false) = _; (try simp only [List.length_map] at *); unfold lf; simp_all; done)
  | skip
 all_goals first
  | ((refine ⟨_, _, xk hints hl, ?_⟩; conv => whnf)
     refine ae rfl ?_
     show AV.d (D.bool _) = AV.d (D.bool _)
     congr 2
     (try simp only [List.length_map] at *)
     unfold lf
     simp_all; done)
  | (refine ae rfl ?_; show AV.d (D.bool false) = _; (try simp only [List.length_map] at *); unfold lf; simp_all; omega)
theorem wI (l : List jd) (hl : l.length <= 100000) : NQ.Fn cx 53 [.slice 3 (l.map dq)] (.d (.bool (jq l))) [] := by
 refine aq ay mixed Tryz.func53 (by kernel_rfl) rfl (Nat.le_of_ble_eq_true rfl) ?_; conv => whnf
 rw [List.length_map]
 refine ab (fun h => ?_) (fun h => ?_) <;> (rw [h]; conv => whnf)
 . refine ae rfl ?_
   show AV.d (D.bool _) = AV.d (D.bool _)
   congr 2
   unfold jq
   simp at h
   simp; omega
 have hle : jq l = gX [] l := by unfold jq; simp at h; simp; omega
 rw [hle]
 refine ⟨Nat, fun k => ⟨[(10, .d (.slice 3 (l.map dq))), (11, .d (.int .i64 ((l.map dq).length : Int))), (12, .d (.int .i64 k)), (3, .omap 9)], [(9, .kmap (vi ((l.take k).map (·.addr))))]⟩, fun k => k <= l.length /\ gX ((l.take k).map (·.addr)) (l.drop k) = gX [] l, fun k => l.length - k,
  ⟨0, ⟨Nat.zero_le _, rfl⟩, ah.keep ⟨⟨rfl, rfl⟩, ⟨rfl, rfl⟩, ⟨rfl, rfl⟩, ⟨rfl, rfl⟩, trivial⟩ ⟨⟨rfl, rfl⟩, trivial⟩⟩, fun k ⟨hk, hinv⟩ => ?_⟩
 conv => whnf
 refine ab (fun h1 => ?_) (fun h1 => ?_) <;> (rw [h1]; conv => whnf)
 . have hlt : k < l.length := by simpa using h1
   obtain ⟨x, hx⟩ : ∃ x, l[k]? = some x := ⟨_, List.getElem?_eq_getElem hlt⟩
   rw [tY hx] at hinv
   refine ⟨Int.natCast_nonneg k, dq x, au hx, ?_⟩
   conv => whnf
   repeat' (first | (refine ⟨_, _, jM x.name, ?_⟩; conv => whnf) | (refine ⟨_, _, El x.name, ?_⟩; conv => whnf) | (refine ⟨_, _, xl x.addr, ?_⟩; conv => whnf) | (refine ab (fun h => ?_) (fun h => ?_) <;> (rw [h]; conv => whnf)) | (refine ⟨_, qJ x.addr _, ?_⟩; cases hc : ((l.take k).map (·.addr)).contains x.addr <;> (conv => whnf)) | fail)
   all_goals first
    | (refine ae rfl ?_; show AV.d (D.bool false) = AV.d (D.bool _); rw [<- hinv]; simp_all; done)
    | (refine ⟨_, Gn hc, ?_⟩
       conv => whnf
       refine ⟨k + 1, ⟨hlt, ?_⟩, by (show l.length - (k + 1) < l.length - k; omega), ah.keep ⟨⟨rfl, rfl⟩, ⟨rfl, rfl⟩, ⟨aj (by omega), rfl⟩, ⟨rfl, rfl⟩, trivial⟩ ⟨⟨?_, rfl⟩, trivial⟩⟩
       . rw [bw hx, List.map_append]; rw [<- hinv]; simp_all
       . rw [bw hx, List.map_append]; rfl)
 . obtain rfl : k = l.length := by simp at h1; omega
   refine ae rfl ?_
   rw [<- hinv, List.drop_length]; rfl
end Go.Proofs.YtnbnldnfkikakaaGreatDoor

set_option maxRecDepth 100000
namespace NP
open NQ Go
def pmap (l : List ai) : List (List D × D) := l.map fun p => ([.int .i64 p.host, .str p.zone.apex], .bool true)
def cE (p x : ai) : Bool := (p.host == x.host) && (p.zone.apex == x.zone.apex)
theorem pU (p : ai) : ∀ l : List ai, kr [.int .i64, .str] [.int .i64 p.host, .str p.zone.apex] (pmap l) = some (if l.any (cE p) = true then some (.bool true) else none)
 | [] => rfl
 | x :: l => by
  show (match bX [.int .i64, .str] [.d (.int .i64 p.host), .d (.str p.zone.apex)] [.d (.int .i64 x.host), .d (.str x.zone.apex)] with | some true => _ | some false => kr _ _ (pmap l) | none => none) = _
  have : bX [.int .i64, .str] [.d (.int .i64 p.host), .d (.str p.zone.apex)] [.d (.int .i64 x.host), .d (.str x.zone.apex)] = some (cE p x) := by
   show some ((p.host == x.host) && ((p.zone.apex == x.zone.apex) && true)) = _
   rw [Bool.and_true]; rfl
  rw [this, List.any_cons]
  cases h : cE p x with
  | true => simp
  | false => simp only [Bool.false_or]; exact pU p l
theorem EV {p : ai} {l : List ai} (h : l.any (cE p) = false) : ri [.int .i64, .str] [.int .i64 p.host, .str p.zone.apex] (.bool true) (pmap l) = some (pmap (l ++ [p])) := by
 rw [tV (by rw [pU, h]; rfl)]
 simp [pmap]
def apx (l : List ai) : List (Bs × D) := l.foldl (fun m p => c7 p.zone.apex (.bool true) m) []
theorem Gj (l : List ai) (p : ai) : apx (l ++ [p]) = c7 p.zone.apex (.bool true) (apx l) := by unfold apx; rw [List.foldl_append]; rfl
def di (n : Nat) : List ai -> List ai -> Bool
 | _, [] => true
 | seen, p :: t => !(decide (p.host < 0) || decide (p.host >= (n : Int)) || seen.any (cE p) || !aR p.zone) && di n (seen ++ [p]) t
def jb (w : bt) : Bool := decide ((w.zones.length : Int) <= 4000) && di w.hosts.length [] w.zones && decide (((apx w.zones).length : Int) <= 500)
theorem se {n : Nat} {l : List ai} {k : Nat} {p : ai} (hp : l[k]? = some p) (seen : List ai) : di n seen (l.drop k) = (!(decide (p.host < 0) || decide (p.host >= (n : Int)) || seen.any (cE p) || !aR p.zone) && di n (seen ++ [p]) (l.drop (k + 1))) := by
 rw [drop_cons hp]; rfl
def aX (w : bt) : Bool := jq w.hosts && jb w && lf w.anchor w.hints
end NP
namespace Go.Proofs.YtnbnldnfkikakaaGreatDoor
open NQ Go NP Go.RowKit
theorem uG (w : bt) (hl : w.zones.length <= 100000) : NQ.Fn cx 54 [.agg (bD w)] (.d (.bool (jb w))) [] := by
 refine aq ay mixed Tryz.func54 (by kernel_rfl) rfl (Nat.le_of_ble_eq_true rfl) ?_; conv => whnf
 rw [List.length_map]
 refine ab (fun h => ?_) (fun h => ?_) <;> (rw [h]; conv => whnf)
 . refine ae rfl ?_
   show AV.d (D.bool _) = AV.d (D.bool _)
   congr 2
   unfold jb
   simp at h
   simp; omega
 have hle : jb w = (di w.hosts.length [] w.zones && decide (((apx w.zones).length : Int) <= 500)) := by
  have : decide ((w.zones.length : Int) <= 4000) = true := by simp at h ⊢; omega
  unfold jb; rw [this, Bool.true_and]
 rw [hle]
 refine ⟨Nat, fun k => ⟨[(1, .ptr 1 0), (15, .d (.slice 3 (w.zones.map aI))), (16, .d (.int .i64 ((w.zones.map aI).length : Int))), (17, .d (.int .i64 k)), (3, .omap 12), (4, .omap 13)], [(1, .box ((bD w).map .d)), (12, .kmap (pmap (w.zones.take k))), (13, .smap (apx (w.zones.take k)))]⟩, fun k => k <= w.zones.length /\ di w.hosts.length (w.zones.take k) (w.zones.drop k) = di w.hosts.length [] w.zones, fun k => w.zones.length - k,
  ⟨0, ⟨Nat.zero_le _, rfl⟩, ah.keep ⟨⟨rfl, rfl⟩, ⟨rfl, rfl⟩, ⟨rfl, rfl⟩, ⟨rfl, rfl⟩, ⟨rfl, rfl⟩, ⟨rfl, rfl⟩, trivial⟩ ⟨⟨rfl, rfl⟩, ⟨rfl, rfl⟩, ⟨rfl, rfl⟩, trivial⟩⟩, fun k ⟨hk, hinv⟩ => ?_⟩
 conv => whnf
 refine ab (fun h1 => ?_) (fun h1 => ?_) <;> (rw [h1]; conv => whnf)
 . have hlt : k < w.zones.length := by simpa using h1
   obtain ⟨x, hx⟩ : ∃ x, w.zones[k]? = some x := ⟨_, List.getElem?_eq_getElem hlt⟩
   rw [se hx] at hinv
   refine ⟨Int.natCast_nonneg k, aI x, au hx, ?_⟩
   conv => whnf
   repeat' (first | (refine ⟨_, _, pt x.zone, ?_⟩; conv => whnf) | (refine ab (fun h => ?_) (fun h => ?_) <;> (rw [h]; conv => whnf)) | (refine ⟨_, pU x _, ?_⟩; cases hc : (w.zones.take k).any (cE x) <;> (conv => whnf)) | fail)
   all_goals first
    | (refine ae rfl ?_; show AV.d (D.bool false) = AV.d (D.bool _); rw [<- hinv]; clear hinv hle; (try simp only [List.length_map] at *); simp only [*, if_true, if_false, Bool.false_eq_true, Bool.not_true, Bool.not_false, Bool.not_not, Bool.true_or, Bool.or_true, Bool.false_or, Bool.or_false, Bool.and_true, Bool.true_and, Bool.false_and, Bool.and_false]; done)
    | (refine ⟨_, EV hc, ?_⟩
       conv => whnf
       refine ⟨k + 1, ⟨hlt, ?_⟩, by (show w.zones.length - (k + 1) < w.zones.length - k; omega), ah.keep ⟨⟨rfl, rfl⟩, ⟨rfl, rfl⟩, ⟨rfl, rfl⟩, ⟨aj (by omega), rfl⟩, ⟨rfl, rfl⟩, ⟨rfl, rfl⟩, trivial⟩ ⟨⟨rfl, rfl⟩, ⟨?_, rfl⟩, ⟨?_, rfl⟩, trivial⟩⟩
       . rw [bw hx]; rw [<- hinv]; clear hinv hle; (try simp only [List.length_map] at *); simp only [*, if_true, if_false, Bool.false_eq_true, Bool.not_true, Bool.not_false, Bool.not_not, Bool.true_or, Bool.or_true, Bool.false_or, Bool.or_false, Bool.and_true, Bool.true_and, Bool.false_and, Bool.and_false]
       . rw [bw hx]; rfl
       . rw [bw hx, Gj]; rfl)
 . obtain rfl : k = w.zones.length := by simp at h1; omega
   refine ae rfl ?_
   rw [<- hinv, List.drop_length, List.take_length]; rfl
theorem lA (w : bt) (h1 : w.hosts.length <= 100000) (h2 : w.zones.length <= 100000) (h3 : w.hints.length <= 100000) : NQ.Fn cx 19 [.agg (bD w)] (.d (.bool (aX w))) [] := by
 refine aq ay mixed Tryz.func19 (by kernel_rfl) rfl (Nat.le_of_ble_eq_true rfl) ?_; conv => whnf
 (refine ⟨_, _, wI w.hosts h1, ?_⟩; conv => whnf)
 refine ab (fun h => ?_) (fun h => ?_) <;> (rw [h]; conv => whnf)
 . (refine ⟨_, _, uG w h2, ?_⟩; conv => whnf)
   refine ab (fun h' => ?_) (fun h' => ?_) <;> (rw [h']; conv => whnf)
   . (refine ⟨_, _, xq w.anchor w.hints h3, ?_⟩; conv => whnf)
     refine ae rfl ?_
     unfold aX; rw [h, h']; rfl
   . refine ae rfl ?_
     unfold aX; rw [h, h']; rfl
 . refine ae rfl ?_
   unfold aX; rw [h]; rfl
end Go.Proofs.YtnbnldnfkikakaaGreatDoor

set_option maxRecDepth 100000
namespace NP
open NQ Go
def dG (a : Bs) : List (Bs × Nat) -> Option Nat
 | [] => none
 | (b, i) :: t => if a = b then some i else dG a t
def kH (a : Bs) (i : Nat) : List (Bs × Nat) -> List (Bs × Nat)
 | [] => [(a, i)]
 | (b, j) :: t => if a = b then (b, i) :: t else (b, j) :: kH a i t
def mO (m : List (Bs × Nat)) : List (Bs × D) := m.map fun p => (p.1, .int .i64 (p.2 : Int))
theorem yl (a : Bs) : ∀ m, cS a (mO m) = (dG a m).map fun i => D.int .i64 (i : Int)
 | [] => rfl
 | (b, i) :: t => by
  show (if a = b then _ else cS a (mO t)) = _
  unfold dG
  split
  . rfl
  . exact yl a t
theorem uY (a : Bs) (i : Nat) : ∀ m, c7 a (.int .i64 (i : Int)) (mO m) = mO (kH a i m)
 | [] => rfl
 | (b, j) :: t => by
  show (if a = b then _ else _ :: c7 a _ (mO t)) = _
  unfold kH
  split
  . rfl
  . rw [uY a i t]; rfl
theorem AG (a : Bs) : ∀ m, kg (.str a) ((mO m).map xD) = some ((dG a m).map fun i => D.int .i64 (i : Int))
 | [] => rfl
 | (b, i) :: t => by
  show (match fp (.str a) [.tuple [.str b]] with | some true => _ | some false => kg (.str a) ((mO t).map xD) | none => none) = _
  have : fp (.str a) [.tuple [.str b]] = some (a == b) := rfl
  rw [this]
  unfold dG
  by_cases h : a = b
  . subst h; simp
  . have : (a == b) = false := by simp [h]
    rw [this, if_neg h]; exact AG a t
theorem lE (a b : Bs) (i : Nat) : ∀ m, dG b (kH a i m) = if a = b then some i else dG b m
 | [] => by
  simp only [kH, dG]
  by_cases h : a = b
  . rw [if_pos h.symm, if_pos h]
  . rw [if_neg (Ne.symm h), if_neg h]
 | (c, j) :: t => by
  unfold kH
  by_cases hc : a = c
  . rw [if_pos hc]
    subst hc
    unfold dG
    by_cases h : b = a
    . rw [if_pos h, if_pos h.symm]
    . rw [if_neg h, if_neg h, if_neg (Ne.symm h)]
  . rw [if_neg hc]
    unfold dG
    by_cases h : b = c
    . rw [if_pos h, if_pos h, if_neg (fun e => hc (e.trans h))]
    . rw [if_neg h, if_neg h]; exact lE a b i t
def eM (p q : ai) : Bool := decide ((eH p.zone).1 > (eH q.zone).1) || (decide ((eH p.zone).1 = (eH q.zone).1) && decide (p.host < q.host))
def fh (zs : List ai) (m : List (Bs × Nat)) (p : ai) : Bool := match dG p.zone.apex m with
 | none => true
 | some j => (match zs[j]? with | some q => eM p q | none => false)
def jk (zs : List ai) : Nat -> List ai -> List (Bs × Nat) -> List (Bs × Nat)
 | _, [], m => m
 | i, p :: t, m => jk zs (i + 1) t (if fh zs m p = true then kH p.zone.apex i m else m)
def dS (zs : List ai) : List (Bs × Nat) := jk zs 0 zs []
theorem CF {zs l : List ai} {k : Nat} {p : ai} (hp : l[k]? = some p) (m : List (Bs × Nat)) : jk zs k (l.drop k) m = jk zs (k + 1) (l.drop (k + 1)) (if fh zs m p = true then kH p.zone.apex k m else m) := by
 rw [drop_cons hp]; rfl
def fY (zs : List ai) (m : List (Bs × Nat)) : Prop := ∀ a j, dG a m = some j -> ∃ p, zs[j]? = some p /\ p.zone.apex = a
theorem fY.put {zs : List ai} {m : List (Bs × Nat)} (h : fY zs m) {i : Nat} {p : ai} (hp : zs[i]? = some p) : fY zs (kH p.zone.apex i m) := by
 intro a j hj
 rw [lE] at hj
 split at hj
 . cases hj; exact ⟨p, hp, by assumption⟩
 . exact h a j hj
theorem fY.go {zs : List ai} : ∀ (l : List ai) (i : Nat) (m : List (Bs × Nat)), (∀ j, l[j]? = zs[i + j]?) -> fY zs m -> fY zs (jk zs i l m)
 | [], i, m, _, h => h
 | p :: t, i, m, hl, h => by
  unfold jk
  refine fY.go t (i + 1) _ (fun j => by have := hl (j + 1); simp at this; rw [this]; congr 1; omega) ?_
  split
  . exact h.put (by have := hl 0; simpa using this.symm)
  . exact h
theorem nf (zs : List ai) : fY zs (dS zs) := fY.go zs 0 [] (fun j => by rw [Nat.zero_add]) (fun a j h => by cases h)
def w4 (w : bt) (m : List (Bs × Nat)) : List D := bD w ++ [.kmap ((mO m).map xD)]
def gS (zs : List ai) (m : List (Bs × Nat)) (q : av) : Nat -> Bs -> Ans × Bool
 | 0, _ => (dF, false)
 | f + 1, a => match dG a m with
  | none => (dF, false)
  | some i => (match zs[i]? with
   | some p => if ((aZ p.zone q).1.kind != 4) = true then ((aZ p.zone q).1, true) else gS zs m q f (aZ p.zone q).1.cut
   | none => (dF, false))
def mu (zs : List ai) : Prop := ∀ p ∈ zs, cN p.zone = true /\ aR p.zone = true
theorem pS {z : ao} {q : av} (u : Use z q) (hk : ((aZ z q).1.kind != 4) = false) : an q.name (aZ z q).1.cut = true /\ (back z.apex).length < (back (aZ z q).1.cut).length /\ af (aZ z q).1.cut = true /\ (aZ z q).1.cut ∈ bI z.apex z.sets := by
 cases hr : cF (vw z q) with
 | false =>
  have := (u.Hh hr).1
  simp only [bne, this] at hk; cases hk
 | true =>
  obtain ⟨s0, R, h1, h2, h3, _⟩ := u.Jb hr
  rw [h3]
  have hne : aN z q.name ≠ [] := by intro e; rw [sm, e] at hr; cases hr
  have hcut : aN z q.name ∈ bI z.apex z.sets /\ an q.name (aN z q.name) = true := by
   unfold aN at hne ⊢
   cases hf : (bI z.apex z.sets).find? fun c => an q.name c with
   | none => rw [hf] at hne; exact absurd rfl hne
   | some c => exact ⟨List.mem_of_find?_eq_some hf, by have := List.find?_some hf; simpa using this⟩
  obtain ⟨hc, hu⟩ := hcut
  have ho := u.ord
  obtain ⟨s, hs, hi, he⟩ := (jY z.apex _ z.sets).1 hc
  have hua := ho.under s hs
  have hsv := ho.name s hs
  unfold aM at hua
  rw [if_pos ⟨hsv, ho.apex⟩, he] at hua
  refine ⟨hu, ?_, he ▸ hsv, hc⟩
  have hpre := (cJ _ _).1 hua
  have hle := hpre.length_le
  rcases Nat.lt_or_ge (back z.apex).length (back (aN z q.name)).length with h | h
  . exact h
  . have e : back z.apex = back (aN z q.name) := hpre.eq_of_length (by omega)
    have : aN z q.name = z.apex := tr hua ((cJ _ _).2 (by rw [e]; exact List.prefix_rfl))
    unfold cL at hi
    rw [he, this] at hi
    simp at hi
end NP
namespace Go.Proofs.YtnbnldnfkikakaaGreatDoor
open NQ Go NP Go.RowKit
theorem BC (w : bt) (hl : w.zones.length <= 100000) : NQ.Fn cx 47 [.agg (bD w)] (.agg ((w4 w (dS w.zones)).map .d)) [] := by
 refine cH (fun | 9 => [9] | _ => []) ay mixed Tryz.func47 (by kernel_rfl) rfl (Nat.le_of_ble_eq_true rfl) ?_
 conv => whnf
 refine ⟨Nat × List (Bs × Nat), fun x => ⟨[(2, .ptr 2 0), (3, .ptr 3 0), (13, .d (.slice 3 (w.zones.map aI))), (14, .d (.int .i64 ((w.zones.map aI).length : Int))), (15, .d (.int .i64 x.1))],
     [(2, .box [.nil 3, .nil 3, .d (.str []), .d (.int .i64 0), .d (.int .i64 0), .nil 3, .nil 1, .undef]), (3, .box ((bD w).map .d ++ [.omap 9])), (9, .smap (mO x.2))]⟩,
  fun x => x.1 <= w.zones.length /\ fY w.zones x.2 /\ jk w.zones x.1 (w.zones.drop x.1) x.2 = dS w.zones, fun x => w.zones.length - x.1,
  ⟨(0, []), ⟨Nat.zero_le _, (fun a j h => by cases h), rfl⟩, ah.keep ⟨⟨rfl, rfl⟩, ⟨rfl, rfl⟩, ⟨rfl, rfl⟩, ⟨rfl, rfl⟩, ⟨rfl, rfl⟩, trivial⟩ ⟨⟨rfl, rfl⟩, ⟨rfl, rfl⟩, ⟨rfl, rfl⟩, trivial⟩⟩, fun ⟨k, m⟩ ⟨hk, hok, hinv⟩ => ?_⟩
 dsimp only at hk hok hinv ⊢
 conv => whnf
 refine ab (fun h1 => ?_) (fun h1 => ?_) <;> (rw [h1]; conv => whnf)
 . have hlt : k < w.zones.length := by simpa using h1
   obtain ⟨x, hx⟩ : ∃ x, w.zones[k]? = some x := ⟨_, List.getElem?_eq_getElem hlt⟩
   rw [CF hx] at hinv
   refine ⟨Int.natCast_nonneg k, aI x, au hx, ?_⟩
   conv => whnf
   rw [yl]
   have again : ∀ m', (m' = if fh w.zones m x = true then kH x.zone.apex k m else m) -> (k + 1 <= w.zones.length /\ fY w.zones m' /\ jk w.zones (k + 1) (w.zones.drop (k + 1)) m' = dS w.zones) := fun m' e => by
    refine ⟨hlt, ?_, by rw [e]; exact hinv⟩
    rw [e]
    split
    . exact hok.put hx
    . exact hok
   cases hf : dG x.zone.apex m with
   | none =>
    conv => whnf
    (refine ⟨(by kernel_rfl : aJ _ _ = true), ?_⟩; conv => whnf)
    have ht : fh w.zones m x = true := by unfold fh; rw [hf]
    refine ⟨(k + 1, kH x.zone.apex k m), again _ (by rw [if_pos ht]), by (show w.zones.length - (k + 1) < w.zones.length - k; omega), ah.keep ⟨⟨rfl, rfl⟩, ⟨rfl, rfl⟩, ⟨rfl, rfl⟩, ⟨rfl, rfl⟩, ⟨aj (by omega), rfl⟩, trivial⟩ ⟨⟨rfl, rfl⟩, ⟨rfl, rfl⟩, ⟨?_, rfl⟩, trivial⟩⟩
    show some (Blk.smap (c7 x.zone.apex (.int .i64 (k : Int)) (mO m))) = _
    rw [uY]
   | some j =>
    conv => whnf
    (refine ⟨(by kernel_rfl : aJ _ _ = true), ?_⟩; conv => whnf)
    obtain ⟨p, hp, hpa⟩ := hok _ j hf
    refine ⟨Int.natCast_nonneg j, aI p, au hp, ?_⟩
    conv => whnf
    (refine ⟨_, _, E7 x p, ?_⟩; conv => whnf)
    have ht : fh w.zones m x = eM x p := by unfold fh; rw [hf]; dsimp only; rw [hp]
    refine ab (fun h2 => ?_) (fun h2 => ?_) <;> (rw [h2]; conv => whnf)
    . have ht : fh w.zones m x = true := ht.trans h2
      refine ⟨(k + 1, kH x.zone.apex k m), again _ (by rw [if_pos ht]), by (show w.zones.length - (k + 1) < w.zones.length - k; omega), ah.keep ⟨⟨rfl, rfl⟩, ⟨rfl, rfl⟩, ⟨rfl, rfl⟩, ⟨rfl, rfl⟩, ⟨aj (by omega), rfl⟩, trivial⟩ ⟨⟨rfl, rfl⟩, ⟨rfl, rfl⟩, ⟨?_, rfl⟩, trivial⟩⟩
      show some (Blk.smap (c7 x.zone.apex (.int .i64 (k : Int)) (mO m))) = _
      rw [uY]
    . have ht : fh w.zones m x = false := ht.trans h2
      exact ⟨(k + 1, m), again _ (by rw [if_neg (by rw [ht]; simp)]), by (show w.zones.length - (k + 1) < w.zones.length - k; omega), ah.keep ⟨⟨rfl, rfl⟩, ⟨rfl, rfl⟩, ⟨rfl, rfl⟩, ⟨rfl, rfl⟩, ⟨aj (by omega), rfl⟩, trivial⟩ ⟨⟨rfl, rfl⟩, ⟨rfl, rfl⟩, ⟨rfl, rfl⟩, trivial⟩⟩
 . obtain rfl : k = w.zones.length := by simp at h1; omega
   rw [List.drop_length] at hinv
   obtain rfl : m = dS w.zones := hinv
   exact ae rfl rfl
end Go.Proofs.YtnbnldnfkikakaaGreatDoor

set_option maxRecDepth 100000
namespace NP
open NQ Go
theorem pF (a : Bs) : an a [46] = true := by
 rw [cJ]
 show ([] : List Bs) <+: _
 exact List.nil_prefix
def bR (zs : List ai) (q : av) : Ans × Bool := gS zs (dS zs) q ((back q.name).length + 2) [46]
theorem tI {q : av} (h : aL q = true) : af q.name = true := by
 unfold aL at h; simp only [Bool.and_eq_true] at h; exact h.1.1
theorem pJ {zs : List ai} {q : av} (hg : mu zs) (hq : aL q = true) {m : List (Bs × Nat)} (hm : fY zs m) {a : Bs} (hu : an q.name a = true) {f : Nat} (hf : (back q.name).length + 1 <= f + (back a).length) {i : Nat} {p : ai} (hi : dG a m = some i) (hp : zs[i]? = some p)
 (hk : ((aZ p.zone q).1.kind != 4) = false) : Use p.zone q /\ an q.name (aZ p.zone q).1.cut = true /\ (back a).length < (back (aZ p.zone q).1.cut).length /\ 1 <= f := by
 obtain ⟨p', hp', ha⟩ := hm a i hi
 rw [hp] at hp'; cases hp'
 obtain ⟨g1, g2⟩ := hg p (List.mem_of_getElem? hp)
 have u : Use p.zone q := ⟨g1, g2, hq, by rw [ha]; exact hu⟩
 obtain ⟨r1, r2, _⟩ := pS u hk
 rw [ha] at r2
 refine ⟨u, r1, r2, ?_⟩
 have := ((cJ _ _).1 r1).length_le
 omega
end NP
namespace Go.Proofs.YtnbnldnfkikakaaGreatDoor
open NQ Go NP Go.RowKit
theorem wK (w : bt) (q : av) (hg : mu w.zones) (hq : aL q = true) : NQ.Fn cx 48 [.agg (w4 w (dS w.zones)), .agg (bq q)] (.tuple [.agg ((cB (bR w.zones q).1).map .d), .d (.bool (bR w.zones q).2)]) [] := by
 refine cH (fun _ => []) ay mixed Tryz.func48 (by kernel_rfl) rfl (Nat.le_of_ble_eq_true rfl) ?_
 conv => whnf
 refine ⟨Nat × Bs, fun x => ⟨[(2, .ptr 2 0), (3, .ptr 3 0), (4, .ptr 4 0), (6, .d (.str x.2))], [(2, .box ((w4 w (dS w.zones)).map .d)), (3, .box ((bq q).map .d)), (4, .box [.d (.int .i64 0), .nil 5, .d (.str [])])]⟩,
  fun x => an q.name x.2 = true /\ (back q.name).length + 1 <= x.1 + (back x.2).length /\ gS w.zones (dS w.zones) q (x.1 + 1) x.2 = bR w.zones q, fun x => x.1,
  ⟨((back q.name).length + 1, [46]), ⟨pF q.name, by omega, rfl⟩, ah.keep ⟨⟨rfl, rfl⟩, ⟨rfl, rfl⟩, ⟨rfl, rfl⟩, ⟨rfl, rfl⟩, trivial⟩ ⟨⟨rfl, rfl⟩, ⟨rfl, rfl⟩, ⟨rfl, rfl⟩, trivial⟩⟩, fun ⟨f, a⟩ ⟨hu, hf, hinv⟩ => ?_⟩
 dsimp only at hu hf hinv ⊢
 conv => whnf
 refine ⟨_, AG a (dS w.zones), ?_⟩
 unfold gS at hinv
 cases hfi : dG a (dS w.zones) with
 | none =>
  rw [hfi] at hinv
  conv => whnf
  refine ae rfl ?_
  rw [<- hinv]; rfl
 | some i =>
  rw [hfi] at hinv
  conv => whnf
  try (refine ⟨(by kernel_rfl : aJ _ _ = true), ?_⟩; conv => whnf)
  obtain ⟨p, hp, hpa⟩ := nf w.zones a i hfi
  have hg' := hg p (List.mem_of_getElem? hp)
  refine ⟨Int.natCast_nonneg i, aI p, au hp, ?_⟩
  conv => whnf
  (refine ⟨_, _, D4 p.zone q hg'.1, ?_⟩; conv => whnf)
  dsimp only at hinv
  rw [hp] at hinv
  dsimp only at hinv
  refine ab (fun h2 => ?_) (fun h2 => ?_) <;> (rw [h2]; conv => whnf)
  . have h2' : ((aZ p.zone q).1.kind != 4) = true := h2
    rw [if_pos h2'] at hinv
    refine ae rfl ?_
    rw [<- hinv]; rfl
  . have h2' : ((aZ p.zone q).1.kind != 4) = false := h2
    rw [if_neg (by rw [h2']; simp)] at hinv
    obtain ⟨u, r1, r2, r3⟩ := pJ hg hq (nf w.zones) hu hf hfi hp h2'
    obtain ⟨f, rfl⟩ : ∃ g, f = g + 1 := ⟨f - 1, by omega⟩
    exact ⟨(f, (aZ p.zone q).1.cut), ⟨r1, by dsimp only; omega, hinv⟩, by (show f < f + 1; omega), ah.keep ⟨⟨rfl, rfl⟩, ⟨rfl, rfl⟩, ⟨rfl, rfl⟩, ⟨rfl, rfl⟩, trivial⟩ ⟨⟨rfl, rfl⟩, ⟨rfl, rfl⟩, ⟨rfl, rfl⟩, trivial⟩⟩
end Go.Proofs.YtnbnldnfkikakaaGreatDoor
namespace NP
open NQ Go
theorem pK {zs : List ai} {q : av} (hg : mu zs) (hq : aL q = true) {m : List (Bs × Nat)} (hm : fY zs m) : ∀ (f : Nat) (a : Bs), an q.name a = true -> ∀ x, gS zs m q f a = (x, true) -> ∃ p ∈ zs, Use p.zone q /\ x = (aZ p.zone q).1 /\ (x.kind != 4) = true
 | 0, a, hu, x, h => by cases h
 | f + 1, a, hu, x, h => by
  unfold gS at h
  cases hi : dG a m with
  | none => rw [hi] at h; cases h
  | some i =>
   rw [hi] at h
   obtain ⟨p, hp, ha⟩ := hm a i hi
   dsimp only at h
   rw [hp] at h
   dsimp only at h
   have hmem := List.mem_of_getElem? hp
   obtain ⟨g1, g2⟩ := hg p hmem
   have u : Use p.zone q := ⟨g1, g2, hq, by rw [ha]; exact hu⟩
   cases hk : ((aZ p.zone q).1.kind != 4) with
   | true => rw [hk, if_pos rfl] at h; cases h; exact ⟨p, hmem, u, rfl, hk⟩
   | false =>
    rw [hk, if_neg (by simp)] at h
    exact pK hg hq hm f _ (pS u hk).1 x h
theorem mD {zs : List ai} {q : av} (hg : mu zs) (hq : aL q = true) {x : Ans} (h : bR zs q = (x, true)) : ∃ p ∈ zs, Use p.zone q /\ x = (aZ p.zone q).1 /\ (x.kind != 4) = true :=
 pK hg hq (nf zs) _ _ (pF q.name) x h
theorem D7 {s : gI} (h : df s = true) (ht : s.type = 3) : ∃ d, s.data = [d] /\ af d.text = true := by
 unfold df at h
 simp only [Bool.and_eq_true, Bool.not_eq_true', Bool.or_eq_false_iff, Bool.not_eq_false'] at h
 obtain ⟨⟨⟨⟨_, _⟩, hw⟩, hs, _⟩, hall⟩ := h
 rw [ht] at hs hall
 have h1 : s.data.length = 1 := by
  have : (dH 3).single = true := rfl
  rw [this, Bool.true_and] at hs
  have : (s.data.length : Int) = 1 := by simpa using hs
  omega
 obtain ⟨d, hd⟩ : ∃ d, s.data = [d] := List.length_eq_one_iff.1 h1
 refine ⟨d, hd, ?_⟩
 rw [hd] at hall
 have := List.all_eq_true.1 hall 0 (by simp)
 rw [sV (d := d) (p := d) rfl rfl] at this
 unfold lP at this
 simp only [Bool.not_eq_true', Bool.or_eq_false_iff, Bool.not_eq_false'] at this
 have hv := this.1
 unfold dO at hv
 simp only [Bool.and_eq_true] at hv
 have ht := hv.2
 have e : (dH 3).text = 1 := rfl
 rw [e] at ht
 simp only [iq, if_true, Bool.and_eq_true] at ht
 exact ht.1
theorem Use.y9 {z : ao} {q : av} (u : Use z q) (hk : (aZ z q).1.kind = 3) : ∃ s R d, (aZ z q).1.sets = s :: R /\ s ∈ z.sets /\ s.set.type = 3 /\ s.set.data = [d] /\ af d.text = true := by
 have key : ∀ (q' : av) (rest : List Int), q'.type = 3 -> (decide (atI z.sets q' >= 0)) = true -> (aZ z q).1.sets = bj z.sets [] (atI z.sets q' :: rest) -> ∃ s R d, (aZ z q).1.sets = s :: R /\ s ∈ z.sets /\ s.set.type = 3 /\ s.set.data = [d] /\ af d.text = true := fun q' rest ht hat hs => by
  have hh : bl z.sets q' = true := by
   have := fc z.sets q'
   cases hc : bl z.sets q' with
   | true => rfl
   | false => rw [hc] at this; simp at this hat; omega
  obtain ⟨k, s, h1, h2, h3⟩ := kB hh
  have hm := List.mem_of_getElem? h2
  have ht3 : s.set.type = 3 := by have := congrArg Prod.snd h3; exact (show s.set.type = q'.type from this).trans ht
  obtain ⟨d, hd, hv⟩ := D7 (u.ord.set s hm) ht3
  refine ⟨s, bj z.sets ([] ++ [atI z.sets q']) rest, d, ?_, hm, ht3, hd, hv⟩
  rw [hs, bj, if_neg (by rw [h1]; simp), h1]
  simp [h2]
 rw [u.ans] at hk key ⊢
 dsimp only at hk key ⊢
 unfold cM at hk key ⊢
 split at hk
 . exfalso; rename_i hr; unfold gL at hk; rw [if_pos hr] at hk; simp at hk
 rename_i hr
 rw [if_neg hr] at key ⊢
 split at hk
 . simp [rp] at hk
 rename_i hd
 rw [if_neg hd] at key ⊢
 split at hk
 . rename_i ha
   rw [if_pos ha] at key ⊢
   have : decide (atI z.sets ⟨q.name, 3⟩ >= 0) = true := by unfold jt at ha; simp only [Bool.and_eq_true] at ha; exact ha.1
   exact key ⟨q.name, 3⟩ [] rfl this rfl
 rename_i ha
 rw [if_neg ha] at key ⊢
 split at hk
 . exfalso; rename_i hx; unfold iS at hk; rw [if_pos hx] at hk; simp at hk
 rename_i hx
 rw [if_neg hx] at key ⊢
 split at hk
 . simp [ou] at hk
 rename_i hw
 rw [if_neg hw] at key ⊢
 split at hk
 . rename_i hwa
   rw [if_pos hwa] at key ⊢
   have hs : (aK (vw z q)).sets = z.sets := lh _
   have : decide (atI z.sets ⟨(aK (vw z q)).bz, 3⟩ >= 0) = true := by unfold dw at hwa; simp only [Bool.and_eq_true] at hwa; rw [hs] at hwa; exact hwa.1
   refine key ⟨(aK (vw z q)).bz, 3⟩ [cZ (aK (vw z q)).sets (aK (vw z q)).q.name] rfl this ?_
   unfold j5
   rw [hs]
 rename_i hwa
 split at hk
 . exfalso; unfold iL at hk; (try split at hk) <;> simp at hk
 . exfalso; unfold gU at hk; (try split at hk) <;> simp at hk
def eV (zs : List ai) : Nat -> av -> List Signed -> Ans × Int
 | 0, _, _ => (dF, 33)
 | f + 1, q, kept => if (!(bR zs q).2) = true then (dF, 34) else if ((bR zs q).1.kind != 3) = true then (⟨(bR zs q).1.kind, kept ++ (bR zs q).1.sets, (bR zs q).1.cut⟩, 0)
  else match (bR zs q).1.sets.head? with
   | some s => (match s.set.data.head? with | some d => eV zs f ⟨d.text, q.type⟩ (kept ++ [s]) | none => (dF, 0))
   | none => (dF, 0)
def dx (w : bt) (q : av) : Ans × Int := if (aX w && aL q) = false then (dF, 1) else eV w.zones 9 q []
end NP

set_option maxRecDepth 100000
namespace NP
open NQ Go
theorem qC {n : Nat} : ∀ (l seen : List ai), di n seen l = true -> ∀ p ∈ l, aR p.zone = true /\ 0 <= p.host /\ p.host < (n : Int)
 | [], _, _, p, hp => by cases hp
 | x :: t, seen, h, p, hp => by
  unfold di at h
  simp only [Bool.and_eq_true, Bool.not_eq_true', Bool.or_eq_false_iff, Bool.not_eq_false', decide_eq_false_iff_not] at h
  rcases List.mem_cons.1 hp with rfl | hp
  . exact ⟨h.1.2, by omega, by omega⟩
  . exact qC t _ h.2 p hp
theorem fP {w : bt} (h : aX w = true) : ∀ p ∈ w.zones, aR p.zone = true /\ 0 <= p.host /\ p.host < (w.hosts.length : Int) := by
 unfold aX jb at h
 simp only [Bool.and_eq_true] at h
 exact qC _ _ h.1.2.1.2
structure jN (w : bt) : Prop where
 hosts : w.hosts.length <= 1000
 zones : w.zones.length <= 1000
 hints : w.hints.length <= 1000
 few : ∀ p ∈ w.zones, cN p.zone = true
end NP
namespace Go.Proofs.YtnbnldnfkikakaaGreatDoor
open NQ Go NP Go.RowKit
set_option maxHeartbeats 1000000 in
theorem so (w : bt) (q0 : av) (hF : jN w) : NQ.Fn cx 14 [.agg (bD w), .agg (bq q0)] (.tuple [.agg ((cB (dx w q0).1).map .d), .d (.int .i64 (dx w q0).2)]) [] := by
 refine cH (fun _ => []) ay mixed Tryz.func14 (by kernel_rfl) rfl (Nat.le_of_ble_eq_true rfl) ?_
 conv => whnf
 (refine ⟨_, _, lA w (by have := hF.hosts; omega) (by have := hF.zones; omega) (by have := hF.hints; omega), ?_⟩; conv => whnf)
 have bad : ∀ (b : Bool), (aX w && aL q0) = false -> dx w q0 = (dF, 1) := fun _ h => by unfold dx; rw [if_pos h]
 repeat' (first | (refine ⟨_, _, vt q0, ?_⟩; conv => whnf) | (refine ab (fun h => ?_) (fun h => ?_) <;> (rw [h]; conv => whnf)) | fail)
 . refine ae rfl ?_
   rw [bad true (by simp_all)]; rfl
 . refine ae rfl ?_
   rw [bad true (by simp_all)]; rfl
 have hval : aX w = true := by simpa using ‹(!aX w) = false›
 have hq0 : aL q0 = true := by simpa using ‹(!aL q0) = false›
 have hg : mu w.zones := fun p hp => ⟨hF.few p hp, (fP hval p hp).1⟩
 have htr : dx w q0 = eV w.zones 9 q0 [] := by unfold dx; rw [if_neg (by rw [hval, hq0]; simp)]
 (refine ⟨_, _, BC w (by have := hF.zones; omega), ?_⟩; conv => whnf)
 refine ⟨av × List Signed, fun x => ⟨[(2, .ptr 2 0), (3, .ptr 3 0), (4, .ptr 4 0), (6, .ptr 6 0), (7, .own 7)], [(2, .box ((bD w).map .d)), (3, .box ((bq x.1).map .d)), (4, .box [.d (.int .i64 0), .nil 5, .d (.str [])]), (6, .box ((w4 w (dS w.zones)).map .d)), (7, .row 63 5 (x.2.map ag))]⟩,
  fun x => aL x.1 = true /\ x.2.length <= 8 /\ eV w.zones (9 - x.2.length) x.1 x.2 = dx w q0, fun x => 9 - x.2.length,
  ⟨(q0, []), ⟨hq0, by simp, by rw [htr]; rfl⟩, (ah.oa 7 7 5 63 5 rfl rfl (by decide)).trans (ah.keep ⟨⟨rfl, rfl⟩, ⟨rfl, rfl⟩, ⟨rfl, rfl⟩, ⟨rfl, rfl⟩, ⟨rfl, rfl⟩, trivial⟩ ⟨⟨rfl, rfl⟩, ⟨rfl, rfl⟩, ⟨rfl, rfl⟩, ⟨rfl, rfl⟩, ⟨rfl, rfl⟩, trivial⟩)⟩, fun ⟨q, kept⟩ ⟨hq, hkl, hinv⟩ => ?_⟩
 dsimp only at hq hkl hinv ⊢
 conv => whnf
 obtain ⟨f, hf⟩ : ∃ f, 9 - kept.length = f + 1 := ⟨8 - kept.length, by omega⟩
 rw [hf] at hinv
 unfold eV at hinv
 (refine ⟨_, _, wK w q hg hq, ?_⟩; conv => whnf)
 refine ab (fun h1 => ?_) (fun h1 => ?_) <;> (rw [h1]; conv => whnf)
 . rw [if_pos h1] at hinv
   refine ae rfl ?_
   rw [<- hinv]; rfl
 rw [if_neg (by rw [h1]; simp)] at hinv
 have hok : (bR w.zones q).2 = true := by simpa using h1
 obtain ⟨p, hpm, u, hpa, hp4⟩ := mD hg hq (x := (bR w.zones q).1) (by rw [<- hok])
 have hal : (bR w.zones q).1.sets.length <= 1000 := by rw [hpa]; exact rA u.few q
 refine ab (fun h2 => ?_) (fun h2 => ?_) <;> (rw [h2]; conv => whnf)
 . rw [if_pos h2] at hinv
   refine ⟨by (show (kept.map ag).length + ((bR w.zones q).1.sets.map ag).length <= _); simp; omega, by (show ((kept.map ag).length + ((bR w.zones q).1.sets.map ag).length) * 80 <= _); simp; omega, ?_⟩
   conv => whnf
   refine ae rfl ?_
   rw [<- hinv]
   show AV.tuple _ = AV.tuple _
   simp [cB]; exact ⟨rfl, rfl⟩
 rw [if_neg (by rw [h2]; simp)] at hinv
 have hk3 : (aZ p.zone q).1.kind = 3 := by rw [<- hpa]; simpa using h2
 obtain ⟨s, R, d, hs, hsm, hst, hsd, hdv⟩ := u.y9 hk3
 rw [<- hpa] at hs
 rw [hs] at hinv
 simp only [List.head?_cons, hsd] at hinv
 refine ab (fun h3 => ?_) (fun h3 => ?_) <;> (rw [h3]; conv => whnf)
 . have hl8 : kept.length = 8 := by simp at h3; omega
   have : f = 0 := by omega
   subst this
   refine ae rfl ?_
   rw [<- hinv]; rfl
 . rw [hs]
   refine ⟨by decide, ag s, rfl, ?_⟩
   conv => whnf
   refine ⟨by (show (kept.map ag).length + 1 <= _); simp; omega, by (show ((kept.map ag).length + 1) * 80 <= _); simp; omega, ?_⟩
   conv => whnf
   refine ⟨by decide, ag s, rfl, ?_⟩
   conv => whnf
   refine ⟨by decide, bB d, (by rw [hsd]; rfl : (s.set.data.map bB)[(0 : Int).toNat]? = some (bB d)), ?_⟩
   conv => whnf
   have hl8 : kept.length < 8 := by simp at h3; omega
   refine ⟨(⟨d.text, q.type⟩, kept ++ [s]), ⟨?_, by simp; omega, ?_⟩, by (show 9 - (kept ++ [s]).length < 9 - kept.length); simp; omega, ah.keep ⟨⟨rfl, rfl⟩, ⟨rfl, rfl⟩, ⟨rfl, rfl⟩, ⟨rfl, rfl⟩, ⟨rfl, rfl⟩, trivial⟩ ⟨⟨rfl, rfl⟩, ⟨rfl, rfl⟩, ⟨rfl, rfl⟩, ⟨rfl, rfl⟩, ⟨?_, rfl⟩, trivial⟩⟩
   . unfold aL at hq ⊢
     simp only [Bool.and_eq_true] at hq ⊢
     exact ⟨⟨hdv, hq.1.2⟩, hq.2⟩
   . rw [<- hinv]
     congr 1
     simp; omega
   . show some (Blk.row _ _ (kept.map ag ++ [ag s]) _) = _
     rw [List.map_append]; rfl
end Go.Proofs.YtnbnldnfkikakaaGreatDoor
