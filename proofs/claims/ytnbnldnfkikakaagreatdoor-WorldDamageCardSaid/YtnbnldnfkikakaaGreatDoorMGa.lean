/-
  Texts of the proof, merged in build order.
-/
import Derived.Test.YtnbnldnfkikakaaGreatDoorMQrc
import Derived.Test.YtnbnldnfkikakaaGreatDoorMLrc
set_option linter.all false
set_option maxRecDepth 100000
namespace NP
open NQ Go
structure jA where
 name : Bs
 addr : Int
 owner : Int
 deriving DecidableEq
structure ai where
 host : Int
 zone : aq
 deriving DecidableEq
structure bt where
 hosts : List jA
 zones : List ai
 anchor : ga
 hints : List Int
def dL (h : jA) : List D := [.str h.name, .int .i64 h.addr, .int .i64 h.owner]
def aR (p : ai) : List D := [.int .i64 p.host, .str p.zone.apex, .slice 5 (p.zone.sets.map ag)]
def bH (w : bt) : List D := [.slice 3 (w.hosts.map dL), .slice 3 (w.zones.map aR), .str w.anchor.name, .int .i64 w.anchor.type, .int .i64 w.anchor.life, .slice 3 (w.anchor.data.map bG), .slice 1 (w.hints.map fun n => [.int .i64 n])]
def bK (f : ai -> Bool) : Nat -> List ai -> List (List D)
 | _, [] => []
 | i, p :: t => if f p = true then [.int .i64 i, .agg (aR p)] :: bK f (i + 1) t else bK f (i + 1) t
theorem mH (f : ai -> Bool) : ∀ (i : Nat) (a b : List ai), bK f i (a ++ b) = bK f i a ++ bK f (i + a.length) b
 | i, [], b => by simp [bK]
 | i, p :: t, b => by
  simp only [List.cons_append, bK]
  rw [mH f (i + 1) t b]
  have : i + 1 + t.length = i + (p :: t).length := by simp; omega
  rw [this]
  split <;> rfl
theorem km {f : ai -> Bool} {l : List ai} {k : Nat} {p : ai} (h : l[k]? = some p) : bK f 0 (l.take (k + 1)) = bK f 0 (l.take k) ++ (if f p = true then [[.int .i64 k, .agg (aR p)]] else []) := by
 have hk := (List.getElem?_eq_some_iff.1 h).1
 rw [List.take_add_one, h, mH]
 have : (l.take k).length = k := by simp; omega
 rw [this]
 simp [bK]
theorem yi {f : ai -> Bool} {l : List ai} {k : Nat} {p : ai} (h : l[k]? = some p) (hf : f p = true) : (bK f 0 l)[(bK f 0 (l.take k)).length]? = some [.int .i64 k, .agg (aR p)] := by
 have e : l = l.take (k + 1) ++ l.drop (k + 1) := (List.take_append_drop ..).symm
 have h2 := mH f 0 (l.take (k + 1)) (l.drop (k + 1))
 rw [<- e] at h2
 rw [h2, km h, if_pos hf]
 simp
end NP
namespace Go.Proofs.YtnbnldnfkikakaaGreatDoor
open NQ Go NP Go.RowKit
theorem xP (w : bt) (okf : FuncId) (x y : D) (f : ai -> Bool) (hf : ∀ p ∈ w.zones, NQ.Fn cx okf [.agg (aR p), x, y] (.d (.bool (f p))) []) (hc : cx.chg okf = 0) (hn : w.zones.length <= 100000) :
 tv cx 91 [.ptr (bH w), .ptr [.fn okf [] [x, y]]] (bK f 0 w.zones) := by
 refine rU (fun | 3 => [77777] | _ => []) aB mixed Tryz.func91 (by kernel_rfl) rfl rfl (Nat.le_of_ble_eq_true rfl) ?_
 conv => whnf
 refine ⟨rfl, ?_⟩
 conv => whnf
 refine ⟨Nat, fun k => (((bK f 0 (w.zones.take k)).length, true), ⟨[(1, .d (.ptr (bH w))), (2, .d (.ptr [.fn okf [] [x, y]])), (7, .d (.slice 3 (w.zones.map aR))), (8, .d (.int .i64 ((w.zones.map aR).length : Int))), (9, .d (.int .i64 k))], []⟩),
  fun k => k <= w.zones.length, fun k => w.zones.length - k, ⟨0, Nat.zero_le _, by simp [bK], ah.keep ⟨⟨rfl, rfl⟩, ⟨rfl, rfl⟩, ⟨rfl, rfl⟩, ⟨rfl, rfl⟩, ⟨rfl, rfl⟩, trivial⟩ trivial⟩, fun k hk => ?_⟩
 conv => whnf
 refine ⟨rfl, ?_⟩
 conv => whnf
 refine ab (fun h1 => ?_) (fun h1 => ?_) <;> (rw [h1]; conv => whnf)
 . obtain ⟨p, hp⟩ : ∃ p, w.zones[k]? = some p := ⟨_, List.getElem?_eq_getElem (by simpa using h1)⟩
   have hkl := (List.getElem?_eq_some_iff.1 hp).1
   refine ⟨rfl, ?_⟩
   conv => whnf
   refine ⟨Int.natCast_nonneg k, aR p, ay hp, ?_⟩
   conv => whnf
   refine ⟨rfl, ?_⟩
   conv => whnf
   refine ⟨rfl, ?_⟩
   conv => whnf
   refine ⟨rfl, ?_⟩
   conv => whnf
   rw [hc]
   conv => whnf
   (refine ⟨_, _, hf p (List.mem_of_getElem? hp), ?_⟩; conv => whnf)
   repeat' (first | (refine ⟨rfl, ?_⟩; conv => whnf) | (refine ab (fun h => ?_) (fun h => ?_) <;> (rw [h]; conv => whnf)))
   . refine ⟨_, yi hp h, rfl, fun b => ?_⟩
     conv => whnf
     cases b with
     | true =>
      repeat' (first | (refine ⟨rfl, ?_⟩; conv => whnf) | fail)
      refine ⟨k + 1, by show k + 1 <= _; omega, by show w.zones.length - (k + 1) < w.zones.length - k; omega, ?_, ah.keep ⟨⟨rfl, rfl⟩, ⟨rfl, rfl⟩, ⟨rfl, rfl⟩, ⟨rfl, rfl⟩, ⟨ak (by omega), rfl⟩, trivial⟩ trivial⟩
      show ((bK f 0 (List.take (k + 1) w.zones)).length, true) = ((bK f 0 (List.take k w.zones)).length + 1, true)
      rw [km hp, if_pos h]; simp
     | false =>
      repeat' (first | (refine ⟨rfl, ?_⟩; conv => whnf) | fail)
      exact ⟨trivial, fun h => by cases h⟩
   . refine ⟨k + 1, by show k + 1 <= _; omega, by show w.zones.length - (k + 1) < w.zones.length - k; omega, ?_, ah.keep ⟨⟨rfl, rfl⟩, ⟨rfl, rfl⟩, ⟨rfl, rfl⟩, ⟨rfl, rfl⟩, ⟨ak (by omega), rfl⟩, trivial⟩ trivial⟩
     show ((bK f 0 (List.take (k + 1) w.zones)).length, true) = ((bK f 0 (List.take k w.zones)).length, true)
     rw [km hp, if_neg (by rw [h]; simp)]; simp
 . refine ⟨trivial, fun _ => ?_⟩
   obtain rfl : k = w.zones.length := by simp at h1; omega
   simp
theorem xO (w : bt) (okf : FuncId) (x : D) (f : ai -> Bool) (hf : ∀ p ∈ w.zones, NQ.Fn cx okf [.agg (aR p), x] (.d (.bool (f p))) []) (hc : cx.chg okf = 0) (hn : w.zones.length <= 100000) :
 tv cx 91 [.ptr (bH w), .ptr [.fn okf [] [x]]] (bK f 0 w.zones) := by
 refine rU (fun | 3 => [77777] | _ => []) aB mixed Tryz.func91 (by kernel_rfl) rfl rfl (Nat.le_of_ble_eq_true rfl) ?_
 conv => whnf
 refine ⟨rfl, ?_⟩
 conv => whnf
 refine ⟨Nat, fun k => (((bK f 0 (w.zones.take k)).length, true), ⟨[(1, .d (.ptr (bH w))), (2, .d (.ptr [.fn okf [] [x]])), (7, .d (.slice 3 (w.zones.map aR))), (8, .d (.int .i64 ((w.zones.map aR).length : Int))), (9, .d (.int .i64 k))], []⟩),
  fun k => k <= w.zones.length, fun k => w.zones.length - k, ⟨0, Nat.zero_le _, by simp [bK], ah.keep ⟨⟨rfl, rfl⟩, ⟨rfl, rfl⟩, ⟨rfl, rfl⟩, ⟨rfl, rfl⟩, ⟨rfl, rfl⟩, trivial⟩ trivial⟩, fun k hk => ?_⟩
 conv => whnf
 refine ⟨rfl, ?_⟩
 conv => whnf
 refine ab (fun h1 => ?_) (fun h1 => ?_) <;> (rw [h1]; conv => whnf)
 . obtain ⟨p, hp⟩ : ∃ p, w.zones[k]? = some p := ⟨_, List.getElem?_eq_getElem (by simpa using h1)⟩
   have hkl := (List.getElem?_eq_some_iff.1 hp).1
   refine ⟨rfl, ?_⟩
   conv => whnf
   refine ⟨Int.natCast_nonneg k, aR p, ay hp, ?_⟩
   conv => whnf
   refine ⟨rfl, ?_⟩
   conv => whnf
   refine ⟨rfl, ?_⟩
   conv => whnf
   refine ⟨rfl, ?_⟩
   conv => whnf
   rw [hc]
   conv => whnf
   (refine ⟨_, _, hf p (List.mem_of_getElem? hp), ?_⟩; conv => whnf)
   repeat' (first | (refine ⟨rfl, ?_⟩; conv => whnf) | (refine ab (fun h => ?_) (fun h => ?_) <;> (rw [h]; conv => whnf)))
   . refine ⟨_, yi hp h, rfl, fun b => ?_⟩
     conv => whnf
     cases b with
     | true =>
      repeat' (first | (refine ⟨rfl, ?_⟩; conv => whnf) | fail)
      refine ⟨k + 1, by show k + 1 <= _; omega, by show w.zones.length - (k + 1) < w.zones.length - k; omega, ?_, ah.keep ⟨⟨rfl, rfl⟩, ⟨rfl, rfl⟩, ⟨rfl, rfl⟩, ⟨rfl, rfl⟩, ⟨ak (by omega), rfl⟩, trivial⟩ trivial⟩
      show ((bK f 0 (List.take (k + 1) w.zones)).length, true) = ((bK f 0 (List.take k w.zones)).length + 1, true)
      rw [km hp, if_pos h]; simp
     | false =>
      repeat' (first | (refine ⟨rfl, ?_⟩; conv => whnf) | fail)
      exact ⟨trivial, fun h => by cases h⟩
   . refine ⟨k + 1, by show k + 1 <= _; omega, by show w.zones.length - (k + 1) < w.zones.length - k; omega, ?_, ah.keep ⟨⟨rfl, rfl⟩, ⟨rfl, rfl⟩, ⟨rfl, rfl⟩, ⟨rfl, rfl⟩, ⟨ak (by omega), rfl⟩, trivial⟩ trivial⟩
     show ((bK f 0 (List.take (k + 1) w.zones)).length, true) = ((bK f 0 (List.take k w.zones)).length, true)
     rw [km hp, if_neg (by rw [h]; simp)]; simp
 . refine ⟨trivial, fun _ => ?_⟩
   obtain rfl : k = w.zones.length := by simp at h1; omega
   simp
end Go.Proofs.YtnbnldnfkikakaaGreatDoor

set_option maxRecDepth 100000
namespace Go.Proofs.YtnbnldnfkikakaaGreatDoor
open NQ Go NP Go.RowKit
theorem vB (w : bt) (okf : FuncId) (caps : List D) : NQ.Fn cx 38 [.agg (bH w), .fn okf [] caps] (.d (.fn 91 [] [.ptr (bH w), .ptr [.fn okf [] caps]])) [] := by
 refine cM (fun | 1 => [2, 3] | _ => []) aB mixed Tryz.func38 (by kernel_rfl) rfl (Nat.le_of_ble_eq_true rfl) ?_
 conv => whnf
 exact ae rfl rfl
theorem wF (s a : Bs) : NQ.Fn cx 40 [.str s, .str a] (.d (.bool (aL s a).1)) [] := by
 refine ar aB mixed Tryz.func40 (by kernel_rfl) rfl (Nat.le_of_ble_eq_true rfl) ?_; conv => whnf
 (refine ⟨_, _, mC s a, ?_⟩; conv => whnf)
 exact ae rfl rfl
theorem Dp (s : Bs) (p : ai) : NQ.Fn cx 50 [.agg (aR p), .ptr [.str s]] (.d (.bool (aL s p.zone.apex).1)) [] := by
 refine ar aB mixed Tryz.func50 (by kernel_rfl) rfl (Nat.le_of_ble_eq_true rfl) ?_; conv => whnf
 (refine ⟨_, _, wF s p.zone.apex, ?_⟩; conv => whnf)
 exact ae rfl rfl
theorem EB (host : Int) (q : ax) (p : ai) : NQ.Fn cx 39 [.agg (aR p), .ptr [.int .i64 host], .ptr (bA q)] (.d (.bool (decide (p.host = host) && (aL q.name p.zone.apex).1))) [] := by
 refine ar aB mixed Tryz.func39 (by kernel_rfl) rfl (Nat.le_of_ble_eq_true rfl) ?_; conv => whnf
 repeat' (first | (refine ⟨_, _, wF q.name p.zone.apex, ?_⟩; conv => whnf) | (refine ab (fun h => ?_) (fun h => ?_) <;> (rw [h]; conv => whnf)) | fail)
 all_goals (refine ae rfl ?_; show AV.d (D.bool _) = AV.d (D.bool _); congr 2; simp_all; done)
end Go.Proofs.YtnbnldnfkikakaaGreatDoor
namespace NP
open NQ Go
def cv (s : Bs) : Int := ((cy s).1.length : Int)
end NP
namespace Go.Proofs.YtnbnldnfkikakaaGreatDoor
open NQ Go NP Go.RowKit
theorem qM (s : Bs) : NQ.Fn cx 43 [.str s] (.d (.int .i64 (cv s))) [] := by
 refine ar aB mixed Tryz.func43 (by kernel_rfl) rfl (Nat.le_of_ble_eq_true rfl) ?_; conv => whnf
 (refine ⟨_, _, pA s, ?_⟩; conv => whnf)
 refine ae rfl ?_
 show AV.d (.int .i64 (((cy s).1.map aD).length : Int)) = _
 rw [List.length_map]; rfl
end Go.Proofs.YtnbnldnfkikakaaGreatDoor

set_option maxRecDepth 100000
namespace NP
open NQ Go
def dP (s : Bs) : List ai -> Bs × Int -> Bs × Int
 | [], b => b
 | p :: t, b => dP s t (if (aL s p.zone.apex).1 = true /\ b.2 < cv p.zone.apex then (p.zone.apex, cv p.zone.apex) else b)
def ic (valid : Bool) (w : bt) (s : Bs) : Bs × Int :=
 if (valid && af s) = false then ([], 1) else if (dP s w.zones ([], -1)).2 < 0 then ([], 4) else ((dP s w.zones ([], -1)).1, 0)
theorem mJ (f : ai -> Bool) : ∀ (i : Nat) (l : List ai) (k : Nat) (x : List D), (bK f i l)[k]? = some x -> ∃ j p, x = [.int .i64 (j : Nat), .agg (aR p)] /\ (l.filter f)[k]? = some p
 | i, [], k, x, h => by simp [bK] at h
 | i, p :: t, k, x, h => by
  unfold bK at h
  by_cases hp : f p = true
  . rw [if_pos hp] at h
    rw [List.filter_cons_of_pos hp]
    cases k with
    | zero => cases h; exact ⟨i, p, rfl, rfl⟩
    | succ k => exact mJ f (i + 1) t k x (by simpa using h)
  . rw [if_neg hp] at h
    rw [List.filter_cons_of_neg hp]
    exact mJ f (i + 1) t k x h
theorem vL (f : ai -> Bool) (i : Nat) (l : List ai) (x : List D) (h : x ∈ bK f i l) : x.length = 2 := by
 obtain ⟨k, hk⟩ := List.getElem?_of_mem h
 obtain ⟨j, p, rfl, _⟩ := mJ f i l k x hk
 rfl
theorem l8 (f : ai -> Bool) : ∀ (i : Nat) (l : List ai), (bK f i l).length = (l.filter f).length
 | i, [] => rfl
 | i, p :: t => by
  unfold bK
  by_cases hp : f p = true
  . rw [if_pos hp, List.filter_cons_of_pos hp, List.length_cons, List.length_cons, l8 f (i + 1) t]
  . rw [if_neg hp, List.filter_cons_of_neg hp, l8 f (i + 1) t]
def hAt (s : Bs) (w : bt) (k : Nat) : Bs × Int := dP s ((w.zones.filter fun p => (aL s p.zone.apex).1).take k) ([], -1)
theorem yl (s : Bs) : ∀ (a : List ai) (p : ai) (b : Bs × Int), dP s (a ++ [p]) b = dP s [p] (dP s a b)
 | [], p, b => rfl
 | x :: a, p, b => yl s a p _
theorem yj {s : Bs} {w : bt} {k : Nat} {p : ai} (h : (w.zones.filter fun p => (aL s p.zone.apex).1)[k]? = some p) : hAt s w (k + 1) = if (hAt s w k).2 < cv p.zone.apex then (p.zone.apex, cv p.zone.apex) else hAt s w k := by
 have hu : (aL s p.zone.apex).1 = true := (List.mem_filter.1 (List.mem_of_getElem? h)).2
 unfold hAt
 rw [List.take_add_one, h]
 show dP s (_ ++ [p]) _ = _
 rw [yl]
 simp only [dP, hu, true_and]
theorem nP (s : Bs) : ∀ (l : List ai) (b : Bs × Int), dP s (l.filter fun p => (aL s p.zone.apex).1) b = dP s l b
 | [], b => rfl
 | p :: t, b => by
  by_cases hp : (aL s p.zone.apex).1 = true
  . rw [List.filter_cons_of_pos (p := fun p : ai => (aL s p.zone.apex).1) hp]; exact nP s t _
  . rw [List.filter_cons_of_neg (p := fun p : ai => (aL s p.zone.apex).1) hp, nP s t b]
    show _ = dP s t (if _ then _ else b)
    rw [if_neg (fun h => hp h.1)]
theorem AF (s : Bs) (w : bt) : hAt s w (bK (fun p => (aL s p.zone.apex).1) 0 w.zones).length = dP s w.zones ([], -1) := by
 rw [l8]
 unfold hAt
 rw [List.take_length, nP]
theorem zb (x y : Blk) : ∀ q ∈ [100006, 100007], live [(100006, x), (100007, y)] q := fun q hq => by
 rcases List.mem_cons.1 hq with rfl | hq
 . exact av.2 ⟨x, aG ..⟩
 . rcases List.mem_cons.1 hq with rfl | hq
   . exact av.2 ⟨y, by rw [aM _ _ (by omega), aG]⟩
   . cases hq
end NP
namespace Go.Proofs.YtnbnldnfkikakaaGreatDoor
open NQ Go NP Go.RowKit
theorem Hp (w : bt) (s : Bs) (v : Bool) (hv : NQ.Fn cx 19 [.agg (bH w)] (.d (.bool v)) []) (hn : w.zones.length <= 100000) : NQ.Fn cx 16 [.agg (bH w), .str s] (.tuple [.d (.str (ic v w s).1), .d (.int .i64 (ic v w s).2)]) [] := by
 refine vJ (fun | 4 => [3] | _ => []) aB mixed Tryz.func16 (by kernel_rfl) rfl (Nat.le_of_ble_eq_true rfl) ?_
 conv => whnf
 repeat' (first | (refine ⟨_, _, hv, ?_⟩; conv => whnf) | (refine ⟨_, _, jH s, ?_⟩; conv => whnf) | (refine ab (fun h => ?_) (fun h => ?_) <;> (rw [h]; conv => whnf)) | fail)
 . have e : ic v w s = ([], 1) := by unfold ic; simp_all
   rw [e]
   exact ae rfl rfl
 . have e : ic v w s = ([], 1) := by unfold ic; simp_all
   rw [e]
   exact ae rfl rfl
 (refine ⟨_, _, vB w _ _, ?_⟩; conv => whnf)
 refine ⟨91, _, _, [(6, .ptr 100006 0), (7, .ptr 100007 0), (21, .d (.fn 91 [] [.ptr (bH w), .ptr [.fn 50 [] [.ptr [.str s]]]]))],
  fun k => [(100006, .box [.d (.str (hAt s w k).1)]), (100007, .box [.d (.int .i64 (hAt s w k).2)])], [100006, 100007], (k8.ren [6, 7] (by kernel_rfl)).trans (ah.zero (ah.keep ⟨⟨(by kernel_rfl), (by kernel_rfl)⟩, ⟨(by kernel_rfl), (by kernel_rfl)⟩, ⟨(by kernel_rfl), (by kernel_rfl)⟩, trivial⟩ ⟨⟨(by kernel_rfl), (by kernel_rfl)⟩, ⟨(by kernel_rfl), (by kernel_rfl)⟩, trivial⟩)),
  ⟨rfl, xO w 50 (.ptr [.str s]) (fun p => (aL s p.zone.apex).1) (fun p _ => Dp s p) rfl hn, ?_, rfl, rfl⟩, ⟨Nat.le_of_ble_eq_true rfl, ?_, rfl, by kernel_rfl⟩, ?_, ?_⟩
 . intro x hx
   exact vL _ _ _ x hx
 . intro q hq
   rcases List.mem_cons.1 hq with rfl | hq
   . exact ⟨by omega, [.d (.str (hAt s w 0).1)], by kernel_rfl⟩
   . rcases List.mem_cons.1 hq with rfl | hq
     . exact ⟨by omega, [.d (.int .i64 (hAt s w 0).2)], by kernel_rfl⟩
     . cases hq
 . intro k x hx
   obtain ⟨i, p, rfl, hp⟩ := mJ _ _ _ k x hx
   conv => whnf
   (refine ⟨_, _, qM p.zone.apex, ?_⟩; conv => whnf)
   refine ab (fun h3 => ?_) (fun h3 => ?_) <;> (rw [h3]; conv => whnf)
   . have e : hAt s w (k + 1) = (p.zone.apex, cv p.zone.apex) := by rw [yj hp, if_pos (by simpa using h3)]
     refine ⟨?_, fun q hq => ?_⟩
     . show ah cx _ ⟨[], [(100006, .box [.d (.str (hAt s w (k + 1)).1)]), (100007, .box [.d (.int .i64 (hAt s w (k + 1)).2)])]⟩
       rw [e]
       exact ah.keep trivial ⟨⟨(by kernel_rfl), (by kernel_rfl)⟩, ⟨(by kernel_rfl), (by kernel_rfl)⟩, trivial⟩
     . exact zb _ _ q hq
   . have e : hAt s w (k + 1) = hAt s w k := by rw [yj hp, if_neg (by simpa using h3)]
     refine ⟨?_, fun q hq => ?_⟩
     . show ah cx _ ⟨[], [(100006, .box [.d (.str (hAt s w (k + 1)).1)]), (100007, .box [.d (.int .i64 (hAt s w (k + 1)).2)])]⟩
       rw [e]
       exact ah.keep trivial ⟨⟨(by kernel_rfl), (by kernel_rfl)⟩, ⟨(by kernel_rfl), (by kernel_rfl)⟩, trivial⟩
     . exact zb _ _ q hq
 . conv => whnf
   rw [AF]
   (refine ab (fun h => ?_) (fun h => ?_) <;> (rw [h]; conv => whnf))
   . have e : ic v w s = ([], 4) := by unfold ic; simp_all
     rw [e]
     exact ae rfl rfl
   . have e : ic v w s = ((dP s w.zones ([], -1)).1, 0) := by unfold ic; simp_all
     rw [e]
     refine ae rfl ?_
     rw [AF]
     rfl
end Go.Proofs.YtnbnldnfkikakaaGreatDoor

set_option maxRecDepth 100000
namespace Go.Proofs.YtnbnldnfkikakaaGreatDoor
open NQ Go NP Go.RowKit
theorem FO (p q : ai) : NQ.Fn cx 95 [.agg (aR p), .agg (aR q)] (.d (.bool (decide ((eH p.zone).1 > (eH q.zone).1) || (decide ((eH p.zone).1 = (eH q.zone).1) && decide (p.host < q.host))))) [] := by
 refine ar aB mixed Tryz.func95 (by kernel_rfl) rfl (Nat.le_of_ble_eq_true rfl) ?_; conv => whnf
 (refine ⟨_, _, wm p.zone, ?_⟩; conv => whnf)
 (refine ⟨_, _, wm q.zone, ?_⟩; conv => whnf)
 repeat' (first | (refine ab (fun h => ?_) (fun h => ?_) <;> (rw [h]; conv => whnf)) | fail)
 all_goals (refine ae rfl ?_; show AV.d (D.bool _) = AV.d (D.bool _); congr 2 <;> simp_all)
end Go.Proofs.YtnbnldnfkikakaaGreatDoor

set_option maxRecDepth 100000
namespace NP
open NQ Go
def dJ (n : Int) : Bool := decide (n >= 1) && decide (n <= 1000000)
def pk (s : Bs) : Bool := (cy s).1.head? == some [42]
theorem Gy {s : Bs} (h : af s = true) : pk s = cP s := by
 rw [wG h]; unfold pk cy; rw [if_pos h]
def uM (l : List Int) : List (List D × D) := l.map fun a => ([.tuple [.int .i64 a]], .bool true)
theorem pE (a : Int) : ∀ l : List Int, kv (.int .i64 a) (uM l) = some (if l.contains a = true then some (.bool true) else none)
 | [] => rfl
 | x :: l => by
  show (match fp (.int .i64 a) [.tuple [.int .i64 x]] with | some true => _ | some false => kv (.int .i64 a) (uM l) | none => none) = _
  have : fp (.int .i64 a) [.tuple [.int .i64 x]] = some (a == x) := by simp [fp]
  rw [this]
  cases h : (a == x) with
  | true => have e : a = x := by simpa using h
            subst e; simp
  | false => simp only [List.contains_cons, h, Bool.false_or]; exact pE a l
theorem Ev {a : Int} {l : List Int} (h : l.contains a = false) : rB (.int .i64 a) (.bool true) (uM l) = some (uM (l ++ [a])) := by
 rw [Cl (by rw [pE, h]; rfl)]
 simp [uM]
def gS : List Int -> List jA -> Bool
 | _, [] => true
 | seen, h :: t => !(!af h.name || pk h.name || decide (h.owner < 0) || decide (h.owner >= 32)) && !(!dJ h.addr || seen.contains h.addr) && gS (seen ++ [h.addr]) t
def jt (l : List jA) : Bool := decide ((l.length : Int) <= 64) && gS [] l
theorem tT {l : List jA} {k : Nat} {h : jA} (hh : l[k]? = some h) (seen : List Int) : gS seen (l.drop k) = (!(!af h.name || pk h.name || decide (h.owner < 0) || decide (h.owner >= 32)) && !(!dJ h.addr || seen.contains h.addr) && gS (seen ++ [h.addr]) (l.drop (k + 1))) := by
 rw [drop_cons hh]; rfl
def ln (s : ga) (hints : List Int) : Bool := dh s && (s.type == 6) && (s.name == [46]) && decide ((hints.length : Int) >= 1) && decide ((hints.length : Int) <= 8) && hints.all dJ
end NP
namespace Go.Proofs.YtnbnldnfkikakaaGreatDoor
open NQ Go NP Go.RowKit
theorem wE (q : ax) : NQ.Fn cx 35 [.agg (bA q)] (.d (.bool (aP q))) [] := by
 refine ar aB mixed Tryz.func35 (by kernel_rfl) rfl (Nat.le_of_ble_eq_true rfl) ?_; conv => whnf
 (refine ⟨_, _, jH q.name, ?_⟩; conv => whnf)
 repeat' (first | (refine ab (fun h => ?_) (fun h => ?_) <;> (rw [h]; conv => whnf)) | (refine ae rfl ?_; show AV.d (D.bool false) = _; (try simp only [List.length_map] at *); simp only [aP, *, if_true, if_false, Bool.false_eq_true, Bool.not_true, Bool.not_false, Bool.not_not, Bool.true_or, Bool.or_true, Bool.false_or, Bool.or_false, Bool.and_true, Bool.true_and, Bool.false_and, Bool.and_false]; done) | (refine ae rfl ?_; show AV.d (D.bool true) = _; (try simp only [List.length_map] at *); simp only [aP, *, if_true, if_false, Bool.false_eq_true, Bool.not_true, Bool.not_false, Bool.not_not, Bool.true_or, Bool.or_true, Bool.false_or, Bool.or_false, Bool.and_true, Bool.true_and, Bool.false_and, Bool.and_false]; done) | fail)
 all_goals (refine ae rfl ?_; show AV.d (D.bool _) = AV.d (D.bool _); congr 2; simp_all [aP])
theorem zj (n : Int) : NQ.Fn cx 98 [.int .i64 n] (.d (.bool (dJ n))) [] := by
 refine ar aB mixed Tryz.func98 (by kernel_rfl) rfl (Nat.le_of_ble_eq_true rfl) ?_; conv => whnf
 repeat' (first | (refine ab (fun h => ?_) (fun h => ?_) <;> (rw [h]; conv => whnf)) | fail)
 all_goals (refine ae rfl ?_; show AV.d (D.bool _) = AV.d (D.bool _); congr 2; unfold dJ; simp only [*, if_true, if_false, Bool.false_eq_true, Bool.not_true, Bool.not_false, Bool.not_not, Bool.true_or, Bool.or_true, Bool.false_or, Bool.or_false, Bool.and_true, Bool.true_and, Bool.false_and, Bool.and_false])
theorem Gw (n : Int) : NQ.Fn cx 100 [.int .i64 n] (.d (.bool (!dJ n))) [] := by
 refine ar aB mixed Tryz.func100 (by kernel_rfl) rfl (Nat.le_of_ble_eq_true rfl) ?_; conv => whnf
 (refine ⟨_, _, zj n, ?_⟩; conv => whnf)
 exact ae rfl rfl
theorem Gx (s : Bs) : NQ.Fn cx 97 [.str s] (.d (.bool (pk s))) [] := by
 refine ar aB mixed Tryz.func97 (by kernel_rfl) rfl (Nat.le_of_ble_eq_true rfl) ?_; conv => whnf
 (refine ⟨_, _, pA s, ?_⟩; conv => whnf)
 (refine ab (fun h => ?_) (fun h => ?_) <;> (rw [h]; conv => whnf))
 . cases hl : (cy s).1 with
   | nil => rw [hl] at h; simp at h
   | cons x t =>
    refine ⟨by decide, aD x, rfl, ?_⟩
    conv => whnf
    refine ae rfl ?_
    show AV.d (D.bool _) = AV.d (D.bool _)
    congr 2
    unfold pk; rw [hl]
    simp
 . refine ae rfl ?_
   show AV.d (D.bool _) = AV.d (D.bool _)
   congr 2
   unfold pk
   cases hl : (cy s).1 with
   | nil => rfl
   | cons x t => rw [hl] at h; simp at h
theorem Ds (l : List Int) (p : Int -> Bool) (hn : l.length <= 100000) (hf : ∀ s ∈ l, NQ.Fn cx 100 [.int .i64 s] (.d (.bool (p s))) []) :
 NQ.Fn cx 152 [.slice 1 (l.map cn), .fn 100 [] []] (.d (.int .i64 (match l.findIdx? p with | some k => (k : Int) | none => -1))) [] := by
 refine ar aB mixed Tryz.func152 (by kernel_rfl) rfl (Nat.le_of_ble_eq_true rfl) ?_; conv => whnf
 refine ⟨Nat, fun k => ⟨[(0, .d (.slice 1 (l.map cn))), (1, .d (.fn 100 [] [])), (6, .d (.slice 1 (l.map cn))), (7, .d (.int .i64 ((l.map cn).length : Int))), (8, .d (.int .i64 k))], []⟩, fun k => k <= l.length /\ ∀ j y, j < k -> l[j]? = some y -> p y = false, fun k => l.length - k,
  ⟨0, ⟨by omega, fun j y h => by omega⟩, ah.keep ⟨⟨rfl, rfl⟩, ⟨rfl, rfl⟩, ⟨rfl, rfl⟩, ⟨rfl, rfl⟩, ⟨rfl, rfl⟩, trivial⟩ trivial⟩, fun k hk => ?_⟩
 obtain ⟨hk, hall⟩ := hk
 conv => whnf
 refine ab (fun h1 => ?_) (fun h1 => ?_) <;> (rw [h1]; conv => whnf)
 . have hlt : k < l.length := by simp at h1; omega
   obtain ⟨s, hs⟩ : ∃ s, l[k]? = some s := ⟨_, List.getElem?_eq_getElem hlt⟩
   refine ⟨Int.natCast_nonneg k, cn s, ay hs, ?_⟩
   conv => whnf
   (refine ⟨_, _, hf s (List.mem_of_getElem? hs), ?_⟩; conv => whnf)
   refine ab (fun h2 => ?_) (fun h2 => ?_) <;> (rw [h2]; conv => whnf)
   . refine ae rfl ?_
     have : l.findIdx? p = some k := by
      rw [List.findIdx?_eq_some_iff_getElem]
      obtain ⟨g1, g2⟩ := List.getElem?_eq_some_iff.1 hs
      refine ⟨g1, by rw [g2]; exact h2, fun j hj => ?_⟩
      have := hall j (l[j]) hj (List.getElem?_eq_getElem (by omega))
      rw [this]; decide
     rw [this]; rfl
   . refine ⟨k + 1, ⟨hlt, fun j y hj hy => ?_⟩, by (show l.length - (k + 1) < l.length - k; omega), ah.keep ⟨⟨rfl, rfl⟩, ⟨rfl, rfl⟩, ⟨rfl, rfl⟩, ⟨rfl, rfl⟩, ⟨ak (by omega), rfl⟩, trivial⟩ trivial⟩
     rcases Nat.lt_succ_iff_lt_or_eq.1 hj with hj | rfl
     . exact hall j y hj hy
     . rw [hs] at hy; cases hy; exact h2
 . obtain rfl : k = l.length := by simp at h1; omega
   refine ae rfl ?_
   have : l.findIdx? p = none := by
    rw [List.findIdx?_eq_none_iff]
    intro x hx
    obtain ⟨i, hi⟩ := List.getElem?_of_mem hx
    exact hall i x (List.getElem?_eq_some_iff.1 hi).1 hi
   rw [this]; rfl
theorem G3 (h : jA) (a : Int) : NQ.Fn cx 37 [.agg (dL h), .ptr [.int .i64 a]] (.d (.bool (h.addr == a))) [] := by
 refine ar aB mixed Tryz.func37 (by kernel_rfl) rfl (Nat.le_of_ble_eq_true rfl) ?_; conv => whnf
 exact ae rfl rfl
theorem BH (l : List jA) (p : jA -> Bool) (x : D) (hn : l.length <= 100000) (hf : ∀ s ∈ l, NQ.Fn cx 37 [.agg (dL s), x] (.d (.bool (p s))) []) :
 NQ.Fn cx 36 [.slice 3 (l.map dL), .fn 37 [] [x]] (.d (.int .i64 (match l.findIdx? p with | some k => (k : Int) | none => -1))) [] := by
 refine ar aB mixed Tryz.func36 (by kernel_rfl) rfl (Nat.le_of_ble_eq_true rfl) ?_; conv => whnf
 refine ⟨Nat, fun k => ⟨[(0, .d (.slice 3 (l.map dL))), (1, .d (.fn 37 [] [x])), (7, .d (.int .i64 ((l.map dL).length : Int))), (8, .d (.int .i64 k))], []⟩, fun k => k <= l.length /\ ∀ j y, j < k -> l[j]? = some y -> p y = false, fun k => l.length - k,
  ⟨0, ⟨by omega, fun j y h => by omega⟩, ah.keep ⟨⟨rfl, rfl⟩, ⟨rfl, rfl⟩, ⟨rfl, rfl⟩, ⟨rfl, rfl⟩, trivial⟩ trivial⟩, fun k hk => ?_⟩
 obtain ⟨hk, hall⟩ := hk
 conv => whnf
 refine ab (fun h1 => ?_) (fun h1 => ?_) <;> (rw [h1]; conv => whnf)
 . have hlt : k < l.length := by simp at h1; omega
   obtain ⟨s, hs⟩ : ∃ s, l[k]? = some s := ⟨_, List.getElem?_eq_getElem hlt⟩
   refine ⟨Int.natCast_nonneg k, dL s, ay hs, ?_⟩
   conv => whnf
   (refine ⟨_, _, hf s (List.mem_of_getElem? hs), ?_⟩; conv => whnf)
   refine ab (fun h2 => ?_) (fun h2 => ?_) <;> (rw [h2]; conv => whnf)
   . refine ae rfl ?_
     have : l.findIdx? p = some k := by
      rw [List.findIdx?_eq_some_iff_getElem]
      obtain ⟨g1, g2⟩ := List.getElem?_eq_some_iff.1 hs
      refine ⟨g1, by rw [g2]; exact h2, fun j hj => ?_⟩
      have := hall j (l[j]) hj (List.getElem?_eq_getElem (by omega))
      rw [this]; decide
     rw [this]; rfl
   . refine ⟨k + 1, ⟨hlt, fun j y hj hy => ?_⟩, by (show l.length - (k + 1) < l.length - k; omega), ah.keep ⟨⟨rfl, rfl⟩, ⟨rfl, rfl⟩, ⟨rfl, rfl⟩, ⟨ak (by omega), rfl⟩, trivial⟩ trivial⟩
     rcases Nat.lt_succ_iff_lt_or_eq.1 hj with hj | rfl
     . exact hall j y hj hy
     . rw [hs] at hy; cases hy; exact h2
 . obtain rfl : k = l.length := by simp at h1; omega
   refine ae rfl ?_
   have : l.findIdx? p = none := by
    rw [List.findIdx?_eq_none_iff]
    intro x hx
    obtain ⟨i, hi⟩ := List.getElem?_of_mem hx
    exact hall i x (List.getElem?_eq_some_iff.1 hi).1 hi
   rw [this]; rfl
theorem zk (l : List Int) (hl : l.length <= 100000) : NQ.Fn cx 99 [.slice 1 (l.map cn), .fn 100 [] []] (.d (.bool (!l.all dJ))) [] := by
 refine ar aB mixed Tryz.func99 (by kernel_rfl) rfl (Nat.le_of_ble_eq_true rfl) ?_; conv => whnf
 (refine ⟨_, _, Ds l (fun n => !dJ n) hl (fun s _ => Gw s), ?_⟩; conv => whnf)
 refine ae rfl ?_
 show AV.d (D.bool (decide ((match l.findIdx? (fun n => !dJ n) with | some k => (k : Int) | none => -1) >= 0))) = _
 congr 2
 cases h : l.findIdx? (fun n => !dJ n) with
 | some k =>
  obtain ⟨h1, h2, _⟩ := List.findIdx?_eq_some_iff_getElem.1 h
  rw [decide_eq_true (Int.natCast_nonneg k)]
  have : l.all dJ = false := by
   rw [<- Bool.not_eq_true, List.all_eq_true]
   intro hall
   rw [hall _ (List.getElem_mem h1)] at h2; cases h2
  rw [this]; rfl
 | none =>
  have : l.all dJ = true := by
   rw [List.all_eq_true]
   intro x hx
   have := List.findIdx?_eq_none_iff.1 h x hx
   simpa using this
  rw [this]; rfl
theorem ze (s : ga) (hints : List Int) (hl : hints.length <= 100000) : NQ.Fn cx 55 [.agg (kV s), .slice 1 (hints.map cn)] (.d (.bool (ln s hints))) [] := by
 refine ar aB mixed Tryz.func55 (by kernel_rfl) rfl (Nat.le_of_ble_eq_true rfl) ?_; conv => whnf
 (refine ⟨_, _, r9 s, ?_⟩; conv => whnf)
 repeat' (first | (refine ab (fun h => ?_) (fun h => ?_) <;> (rw [h]; conv => whnf)) | fail)
 all_goals first
  | (refine ae rfl ?_; show AV.d (D.bool false) = _; (try simp only [List.length_map] at *); unfold ln; simp_all; done)
  | skip
 all_goals first
  | ((refine ⟨_, _, zk hints hl, ?_⟩; conv => whnf)
     refine ae rfl ?_
     show AV.d (D.bool _) = AV.d (D.bool _)
     congr 2
     (try simp only [List.length_map] at *)
     unfold ln
     simp_all; done)
  | (refine ae rfl ?_; show AV.d (D.bool false) = _; (try simp only [List.length_map] at *); unfold ln; simp_all; omega)
theorem wY (l : List jA) (hl : l.length <= 100000) : NQ.Fn cx 53 [.slice 3 (l.map dL)] (.d (.bool (jt l))) [] := by
 refine ar aB mixed Tryz.func53 (by kernel_rfl) rfl (Nat.le_of_ble_eq_true rfl) ?_; conv => whnf
 rw [List.length_map]
 refine ab (fun h => ?_) (fun h => ?_) <;> (rw [h]; conv => whnf)
 . refine ae rfl ?_
   show AV.d (D.bool _) = AV.d (D.bool _)
   congr 2
   unfold jt
   simp at h
   simp; omega
 have hle : jt l = gS [] l := by unfold jt; simp at h; simp; omega
 rw [hle]
 refine ⟨Nat, fun k => ⟨[(10, .d (.slice 3 (l.map dL))), (11, .d (.int .i64 ((l.map dL).length : Int))), (12, .d (.int .i64 k)), (3, .omap 9)], [(9, .kmap (uM ((l.take k).map (·.addr))))]⟩, fun k => k <= l.length /\ gS ((l.take k).map (·.addr)) (l.drop k) = gS [] l, fun k => l.length - k,
  ⟨0, ⟨Nat.zero_le _, rfl⟩, ah.keep ⟨⟨rfl, rfl⟩, ⟨rfl, rfl⟩, ⟨rfl, rfl⟩, ⟨rfl, rfl⟩, trivial⟩ ⟨⟨rfl, rfl⟩, trivial⟩⟩, fun k ⟨hk, hinv⟩ => ?_⟩
 conv => whnf
 refine ab (fun h1 => ?_) (fun h1 => ?_) <;> (rw [h1]; conv => whnf)
 . have hlt : k < l.length := by simpa using h1
   obtain ⟨x, hx⟩ : ∃ x, l[k]? = some x := ⟨_, List.getElem?_eq_getElem hlt⟩
   rw [tT hx] at hinv
   refine ⟨Int.natCast_nonneg k, dL x, ay hx, ?_⟩
   conv => whnf
   repeat' (first | (refine ⟨_, _, jH x.name, ?_⟩; conv => whnf) | (refine ⟨_, _, Gx x.name, ?_⟩; conv => whnf) | (refine ⟨_, _, zj x.addr, ?_⟩; conv => whnf) | (refine ab (fun h => ?_) (fun h => ?_) <;> (rw [h]; conv => whnf)) | (refine ⟨_, pE x.addr _, ?_⟩; cases hc : ((l.take k).map (·.addr)).contains x.addr <;> (conv => whnf)) | fail)
   all_goals first
    | (refine ae rfl ?_; show AV.d (D.bool false) = AV.d (D.bool _); rw [<- hinv]; simp_all; done)
    | (refine ⟨_, Ev hc, ?_⟩
       conv => whnf
       refine ⟨k + 1, ⟨hlt, ?_⟩, by (show l.length - (k + 1) < l.length - k; omega), ah.keep ⟨⟨rfl, rfl⟩, ⟨rfl, rfl⟩, ⟨ak (by omega), rfl⟩, ⟨rfl, rfl⟩, trivial⟩ ⟨⟨?_, rfl⟩, trivial⟩⟩
       . rw [bw hx, List.map_append]; rw [<- hinv]; simp_all
       . rw [bw hx, List.map_append]; rfl)
 . obtain rfl : k = l.length := by simp at h1; omega
   refine ae rfl ?_
   rw [<- hinv, List.drop_length]; rfl
end Go.Proofs.YtnbnldnfkikakaaGreatDoor

set_option maxRecDepth 100000
namespace NP
open NQ Go
def pmap (l : List ai) : List (List D × D) := l.map fun p => ([.int .i64 p.host, .str p.zone.apex], .bool true)
def cF (p x : ai) : Bool := (p.host == x.host) && (p.zone.apex == x.zone.apex)
theorem qs (p : ai) : ∀ l : List ai, ko [.int .i64, .str] [.int .i64 p.host, .str p.zone.apex] (pmap l) = some (if l.any (cF p) = true then some (.bool true) else none)
 | [] => rfl
 | x :: l => by
  show (match bV [.int .i64, .str] [.d (.int .i64 p.host), .d (.str p.zone.apex)] [.d (.int .i64 x.host), .d (.str x.zone.apex)] with | some true => _ | some false => ko _ _ (pmap l) | none => none) = _
  have : bV [.int .i64, .str] [.d (.int .i64 p.host), .d (.str p.zone.apex)] [.d (.int .i64 x.host), .d (.str x.zone.apex)] = some (cF p x) := by
   show some ((p.host == x.host) && ((p.zone.apex == x.zone.apex) && true)) = _
   rw [Bool.and_true]; rfl
  rw [this, List.any_cons]
  cases h : cF p x with
  | true => simp
  | false => simp only [Bool.false_or]; exact qs p l
theorem FY {p : ai} {l : List ai} (h : l.any (cF p) = false) : rh [.int .i64, .str] [.int .i64 p.host, .str p.zone.apex] (.bool true) (pmap l) = some (pmap (l ++ [p])) := by
 rw [tW (by rw [qs, h]; rfl)]
 simp [pmap]
def apx (l : List ai) : List (Bs × D) := l.foldl (fun m p => db p.zone.apex (.bool true) m) []
theorem EA (l : List ai) (p : ai) : apx (l ++ [p]) = db p.zone.apex (.bool true) (apx l) := by unfold apx; rw [List.foldl_append]; rfl
def de (n : Nat) : List ai -> List ai -> Bool
 | _, [] => true
 | seen, p :: t => !(decide (p.host < 0) || decide (p.host >= (n : Int)) || seen.any (cF p) || !aQ p.zone) && de n (seen ++ [p]) t
def iN (w : bt) : Bool := decide ((w.zones.length : Int) <= 4000) && de w.hosts.length [] w.zones && decide (((apx w.zones).length : Int) <= 500)
theorem rM {n : Nat} {l : List ai} {k : Nat} {p : ai} (hp : l[k]? = some p) (seen : List ai) : de n seen (l.drop k) = (!(decide (p.host < 0) || decide (p.host >= (n : Int)) || seen.any (cF p) || !aQ p.zone) && de n (seen ++ [p]) (l.drop (k + 1))) := by
 rw [drop_cons hp]; rfl
def bC (w : bt) : Bool := jt w.hosts && iN w && ln w.anchor w.hints
end NP
namespace Go.Proofs.YtnbnldnfkikakaaGreatDoor
open NQ Go NP Go.RowKit
theorem vo (w : bt) (hl : w.zones.length <= 100000) : NQ.Fn cx 54 [.agg (bH w)] (.d (.bool (iN w))) [] := by
 refine ar aB mixed Tryz.func54 (by kernel_rfl) rfl (Nat.le_of_ble_eq_true rfl) ?_; conv => whnf
 rw [List.length_map]
 refine ab (fun h => ?_) (fun h => ?_) <;> (rw [h]; conv => whnf)
 . refine ae rfl ?_
   show AV.d (D.bool _) = AV.d (D.bool _)
   congr 2
   unfold iN
   simp at h
   simp; omega
 have hle : iN w = (de w.hosts.length [] w.zones && decide (((apx w.zones).length : Int) <= 500)) := by
  have : decide ((w.zones.length : Int) <= 4000) = true := by simp at h ⊢; omega
  unfold iN; rw [this, Bool.true_and]
 rw [hle]
 refine ⟨Nat, fun k => ⟨[(1, .ptr 1 0), (15, .d (.slice 3 (w.zones.map aR))), (16, .d (.int .i64 ((w.zones.map aR).length : Int))), (17, .d (.int .i64 k)), (3, .omap 12), (4, .omap 13)], [(1, .box ((bH w).map .d)), (12, .kmap (pmap (w.zones.take k))), (13, .smap (apx (w.zones.take k)))]⟩, fun k => k <= w.zones.length /\ de w.hosts.length (w.zones.take k) (w.zones.drop k) = de w.hosts.length [] w.zones, fun k => w.zones.length - k,
  ⟨0, ⟨Nat.zero_le _, rfl⟩, ah.keep ⟨⟨rfl, rfl⟩, ⟨rfl, rfl⟩, ⟨rfl, rfl⟩, ⟨rfl, rfl⟩, ⟨rfl, rfl⟩, ⟨rfl, rfl⟩, trivial⟩ ⟨⟨rfl, rfl⟩, ⟨rfl, rfl⟩, ⟨rfl, rfl⟩, trivial⟩⟩, fun k ⟨hk, hinv⟩ => ?_⟩
 conv => whnf
 refine ab (fun h1 => ?_) (fun h1 => ?_) <;> (rw [h1]; conv => whnf)
 . have hlt : k < w.zones.length := by simpa using h1
   obtain ⟨x, hx⟩ : ∃ x, w.zones[k]? = some x := ⟨_, List.getElem?_eq_getElem hlt⟩
   rw [rM hx] at hinv
   refine ⟨Int.natCast_nonneg k, aR x, ay hx, ?_⟩
   conv => whnf
   repeat' (first | (refine ⟨_, _, qQ x.zone, ?_⟩; conv => whnf) | (refine ab (fun h => ?_) (fun h => ?_) <;> (rw [h]; conv => whnf)) | (refine ⟨_, qs x _, ?_⟩; cases hc : (w.zones.take k).any (cF x) <;> (conv => whnf)) | fail)
   all_goals first
    | (refine ae rfl ?_; show AV.d (D.bool false) = AV.d (D.bool _); rw [<- hinv]; clear hinv hle; (try simp only [List.length_map] at *); simp only [*, if_true, if_false, Bool.false_eq_true, Bool.not_true, Bool.not_false, Bool.not_not, Bool.true_or, Bool.or_true, Bool.false_or, Bool.or_false, Bool.and_true, Bool.true_and, Bool.false_and, Bool.and_false]; done)
    | (refine ⟨_, FY hc, ?_⟩
       conv => whnf
       refine ⟨k + 1, ⟨hlt, ?_⟩, by (show w.zones.length - (k + 1) < w.zones.length - k; omega), ah.keep ⟨⟨rfl, rfl⟩, ⟨rfl, rfl⟩, ⟨rfl, rfl⟩, ⟨ak (by omega), rfl⟩, ⟨rfl, rfl⟩, ⟨rfl, rfl⟩, trivial⟩ ⟨⟨rfl, rfl⟩, ⟨?_, rfl⟩, ⟨?_, rfl⟩, trivial⟩⟩
       . rw [bw hx]; rw [<- hinv]; clear hinv hle; (try simp only [List.length_map] at *); simp only [*, if_true, if_false, Bool.false_eq_true, Bool.not_true, Bool.not_false, Bool.not_not, Bool.true_or, Bool.or_true, Bool.false_or, Bool.or_false, Bool.and_true, Bool.true_and, Bool.false_and, Bool.and_false]
       . rw [bw hx]; rfl
       . rw [bw hx, EA]; rfl)
 . obtain rfl : k = w.zones.length := by simp at h1; omega
   refine ae rfl ?_
   rw [<- hinv, List.drop_length, List.take_length]; rfl
theorem lS (w : bt) (h1 : w.hosts.length <= 100000) (h2 : w.zones.length <= 100000) (h3 : w.hints.length <= 100000) : NQ.Fn cx 19 [.agg (bH w)] (.d (.bool (bC w))) [] := by
 refine ar aB mixed Tryz.func19 (by kernel_rfl) rfl (Nat.le_of_ble_eq_true rfl) ?_; conv => whnf
 (refine ⟨_, _, wY w.hosts h1, ?_⟩; conv => whnf)
 refine ab (fun h => ?_) (fun h => ?_) <;> (rw [h]; conv => whnf)
 . (refine ⟨_, _, vo w h2, ?_⟩; conv => whnf)
   refine ab (fun h' => ?_) (fun h' => ?_) <;> (rw [h']; conv => whnf)
   . (refine ⟨_, _, ze w.anchor w.hints h3, ?_⟩; conv => whnf)
     refine ae rfl ?_
     unfold bC; rw [h, h']; rfl
   . refine ae rfl ?_
     unfold bC; rw [h, h']; rfl
 . refine ae rfl ?_
   unfold bC; rw [h]; rfl
end Go.Proofs.YtnbnldnfkikakaaGreatDoor

set_option maxRecDepth 100000
namespace NP
open NQ Go
def dC (a : Bs) : List (Bs × Nat) -> Option Nat
 | [] => none
 | (b, i) :: t => if a = b then some i else dC a t
def kY (a : Bs) (i : Nat) : List (Bs × Nat) -> List (Bs × Nat)
 | [] => [(a, i)]
 | (b, j) :: t => if a = b then (b, i) :: t else (b, j) :: kY a i t
def mL (m : List (Bs × Nat)) : List (Bs × D) := m.map fun p => (p.1, .int .i64 (p.2 : Int))
theorem yn (a : Bs) : ∀ m, cZ a (mL m) = (dC a m).map fun i => D.int .i64 (i : Int)
 | [] => rfl
 | (b, i) :: t => by
  show (if a = b then _ else cZ a (mL t)) = _
  unfold dC
  split
  . rfl
  . exact yn a t
theorem uZ (a : Bs) (i : Nat) : ∀ m, db a (.int .i64 (i : Int)) (mL m) = mL (kY a i m)
 | [] => rfl
 | (b, j) :: t => by
  show (if a = b then _ else _ :: db a _ (mL t)) = _
  unfold kY
  split
  . rfl
  . rw [uZ a i t]; rfl
theorem AH (a : Bs) : ∀ m, kv (.str a) ((mL m).map y1) = some ((dC a m).map fun i => D.int .i64 (i : Int))
 | [] => rfl
 | (b, i) :: t => by
  show (match fp (.str a) [.tuple [.str b]] with | some true => _ | some false => kv (.str a) ((mL t).map y1) | none => none) = _
  have : fp (.str a) [.tuple [.str b]] = some (a == b) := rfl
  rw [this]
  unfold dC
  by_cases h : a = b
  . subst h; simp
  . have : (a == b) = false := by simp [h]
    rw [this, if_neg h]; exact AH a t
theorem lO (a b : Bs) (i : Nat) : ∀ m, dC b (kY a i m) = if a = b then some i else dC b m
 | [] => by
  simp only [kY, dC]
  by_cases h : a = b
  . rw [if_pos h.symm, if_pos h]
  . rw [if_neg (Ne.symm h), if_neg h]
 | (c, j) :: t => by
  unfold kY
  by_cases hc : a = c
  . rw [if_pos hc]
    subst hc
    unfold dC
    by_cases h : b = a
    . rw [if_pos h, if_pos h.symm]
    . rw [if_neg h, if_neg h, if_neg (Ne.symm h)]
  . rw [if_neg hc]
    unfold dC
    by_cases h : b = c
    . rw [if_pos h, if_pos h, if_neg (fun e => hc (e.trans h))]
    . rw [if_neg h, if_neg h]; exact lO a b i t
def eL (p q : ai) : Bool := decide ((eH p.zone).1 > (eH q.zone).1) || (decide ((eH p.zone).1 = (eH q.zone).1) && decide (p.host < q.host))
def fE (zs : List ai) (m : List (Bs × Nat)) (p : ai) : Bool := match dC p.zone.apex m with
 | none => true
 | some j => (match zs[j]? with | some q => eL p q | none => false)
def jz (zs : List ai) : Nat -> List ai -> List (Bs × Nat) -> List (Bs × Nat)
 | _, [], m => m
 | i, p :: t, m => jz zs (i + 1) t (if fE zs m p = true then kY p.zone.apex i m else m)
def dU (zs : List ai) : List (Bs × Nat) := jz zs 0 zs []
theorem D9 {zs l : List ai} {k : Nat} {p : ai} (hp : l[k]? = some p) (m : List (Bs × Nat)) : jz zs k (l.drop k) m = jz zs (k + 1) (l.drop (k + 1)) (if fE zs m p = true then kY p.zone.apex k m else m) := by
 rw [drop_cons hp]; rfl
def fO (zs : List ai) (m : List (Bs × Nat)) : Prop := ∀ a j, dC a m = some j -> ∃ p, zs[j]? = some p /\ p.zone.apex = a
theorem fO.put {zs : List ai} {m : List (Bs × Nat)} (h : fO zs m) {i : Nat} {p : ai} (hp : zs[i]? = some p) : fO zs (kY p.zone.apex i m) := by
 intro a j hj
 rw [lO] at hj
 split at hj
 . cases hj; exact ⟨p, hp, by assumption⟩
 . exact h a j hj
theorem fO.go {zs : List ai} : ∀ (l : List ai) (i : Nat) (m : List (Bs × Nat)), (∀ j, l[j]? = zs[i + j]?) -> fO zs m -> fO zs (jz zs i l m)
 | [], i, m, _, h => h
 | p :: t, i, m, hl, h => by
  unfold jz
  refine fO.go t (i + 1) _ (fun j => by have := hl (j + 1); simp at this; rw [this]; congr 1; omega) ?_
  split
  . exact h.put (by have := hl 0; simpa using this.symm)
  . exact h
theorem nF (zs : List ai) : fO zs (dU zs) := fO.go zs 0 [] (fun j => by rw [Nat.zero_add]) (fun a j h => by cases h)
def xh (w : bt) (m : List (Bs × Nat)) : List D := bH w ++ [.kmap ((mL m).map y1)]
def gX (zs : List ai) (m : List (Bs × Nat)) (q : ax) : Nat -> Bs -> Ans × Bool
 | 0, _ => (dX, false)
 | f + 1, a => match dC a m with
  | none => (dX, false)
  | some i => (match zs[i]? with
   | some p => if ((bg p.zone q).1.kind != 4) = true then ((bg p.zone q).1, true) else gX zs m q f (bg p.zone q).1.cut
   | none => (dX, false))
def nf (zs : List ai) : Prop := ∀ p ∈ zs, dj p.zone = true /\ aQ p.zone = true
theorem qw {z : aq} {q : ax} (u : Use z q) (hk : ((bg z q).1.kind != 4) = false) : ao q.name (bg z q).1.cut = true /\ (back z.apex).length < (back (bg z q).1.cut).length /\ af (bg z q).1.cut = true /\ (bg z q).1.cut ∈ bJ z.apex z.sets := by
 cases hr : cE (vw z q) with
 | false =>
  have := (u.H6 hr).1
  simp only [bne, this] at hk; cases hk
 | true =>
  obtain ⟨s0, R, h1, h2, h3, _⟩ := u.Jy hr
  rw [h3]
  have hne : aK z q.name ≠ [] := by intro e; rw [tr, e] at hr; cases hr
  have hcut : aK z q.name ∈ bJ z.apex z.sets /\ ao q.name (aK z q.name) = true := by
   unfold aK at hne ⊢
   cases hf : (bJ z.apex z.sets).find? fun c => ao q.name c with
   | none => rw [hf] at hne; exact absurd rfl hne
   | some c => exact ⟨List.mem_of_find?_eq_some hf, by have := List.find?_some hf; simpa using this⟩
  obtain ⟨hc, hu⟩ := hcut
  have ho := u.ord
  obtain ⟨s, hs, hi, he⟩ := (jQ z.apex _ z.sets).1 hc
  have hua := ho.under s hs
  have hsv := ho.name s hs
  unfold aL at hua
  rw [if_pos ⟨hsv, ho.apex⟩, he] at hua
  refine ⟨hu, ?_, he ▸ hsv, hc⟩
  have hpre := (cL _ _).1 hua
  have hle := hpre.length_le
  rcases Nat.lt_or_ge (back z.apex).length (back (aK z q.name)).length with h | h
  . exact h
  . have e : back z.apex = back (aK z q.name) := hpre.eq_of_length (by omega)
    have : aK z q.name = z.apex := uC hua ((cL _ _).2 (by rw [e]; exact List.prefix_rfl))
    unfold cJ at hi
    rw [he, this] at hi
    simp at hi
end NP
namespace Go.Proofs.YtnbnldnfkikakaaGreatDoor
open NQ Go NP Go.RowKit
theorem BT (w : bt) (hl : w.zones.length <= 100000) : NQ.Fn cx 47 [.agg (bH w)] (.agg ((xh w (dU w.zones)).map .d)) [] := by
 refine cM (fun | 9 => [9] | _ => []) aB mixed Tryz.func47 (by kernel_rfl) rfl (Nat.le_of_ble_eq_true rfl) ?_
 conv => whnf
 refine ⟨Nat × List (Bs × Nat), fun x => ⟨[(2, .ptr 2 0), (3, .ptr 3 0), (13, .d (.slice 3 (w.zones.map aR))), (14, .d (.int .i64 ((w.zones.map aR).length : Int))), (15, .d (.int .i64 x.1))],
     [(2, .box [.nil 3, .nil 3, .d (.str []), .d (.int .i64 0), .d (.int .i64 0), .nil 3, .nil 1, .undef]), (3, .box ((bH w).map .d ++ [.omap 9])), (9, .smap (mL x.2))]⟩,
  fun x => x.1 <= w.zones.length /\ fO w.zones x.2 /\ jz w.zones x.1 (w.zones.drop x.1) x.2 = dU w.zones, fun x => w.zones.length - x.1,
  ⟨(0, []), ⟨Nat.zero_le _, (fun a j h => by cases h), rfl⟩, ah.keep ⟨⟨rfl, rfl⟩, ⟨rfl, rfl⟩, ⟨rfl, rfl⟩, ⟨rfl, rfl⟩, ⟨rfl, rfl⟩, trivial⟩ ⟨⟨rfl, rfl⟩, ⟨rfl, rfl⟩, ⟨rfl, rfl⟩, trivial⟩⟩, fun ⟨k, m⟩ ⟨hk, hok, hinv⟩ => ?_⟩
 dsimp only at hk hok hinv ⊢
 conv => whnf
 refine ab (fun h1 => ?_) (fun h1 => ?_) <;> (rw [h1]; conv => whnf)
 . have hlt : k < w.zones.length := by simpa using h1
   obtain ⟨x, hx⟩ : ∃ x, w.zones[k]? = some x := ⟨_, List.getElem?_eq_getElem hlt⟩
   rw [D9 hx] at hinv
   refine ⟨Int.natCast_nonneg k, aR x, ay hx, ?_⟩
   conv => whnf
   rw [yn]
   have again : ∀ m', (m' = if fE w.zones m x = true then kY x.zone.apex k m else m) -> (k + 1 <= w.zones.length /\ fO w.zones m' /\ jz w.zones (k + 1) (w.zones.drop (k + 1)) m' = dU w.zones) := fun m' e => by
    refine ⟨hlt, ?_, by rw [e]; exact hinv⟩
    rw [e]
    split
    . exact hok.put hx
    . exact hok
   cases hf : dC x.zone.apex m with
   | none =>
    conv => whnf
    (refine ⟨(by kernel_rfl : aO _ _ = true), ?_⟩; conv => whnf)
    have ht : fE w.zones m x = true := by unfold fE; rw [hf]
    refine ⟨(k + 1, kY x.zone.apex k m), again _ (by rw [if_pos ht]), by (show w.zones.length - (k + 1) < w.zones.length - k; omega), ah.keep ⟨⟨rfl, rfl⟩, ⟨rfl, rfl⟩, ⟨rfl, rfl⟩, ⟨rfl, rfl⟩, ⟨ak (by omega), rfl⟩, trivial⟩ ⟨⟨rfl, rfl⟩, ⟨rfl, rfl⟩, ⟨?_, rfl⟩, trivial⟩⟩
    show some (Blk.smap (db x.zone.apex (.int .i64 (k : Int)) (mL m))) = _
    rw [uZ]
   | some j =>
    conv => whnf
    (refine ⟨(by kernel_rfl : aO _ _ = true), ?_⟩; conv => whnf)
    obtain ⟨p, hp, hpa⟩ := hok _ j hf
    refine ⟨Int.natCast_nonneg j, aR p, ay hp, ?_⟩
    conv => whnf
    (refine ⟨_, _, FO x p, ?_⟩; conv => whnf)
    have ht : fE w.zones m x = eL x p := by unfold fE; rw [hf]; dsimp only; rw [hp]
    refine ab (fun h2 => ?_) (fun h2 => ?_) <;> (rw [h2]; conv => whnf)
    . have ht : fE w.zones m x = true := ht.trans h2
      refine ⟨(k + 1, kY x.zone.apex k m), again _ (by rw [if_pos ht]), by (show w.zones.length - (k + 1) < w.zones.length - k; omega), ah.keep ⟨⟨rfl, rfl⟩, ⟨rfl, rfl⟩, ⟨rfl, rfl⟩, ⟨rfl, rfl⟩, ⟨ak (by omega), rfl⟩, trivial⟩ ⟨⟨rfl, rfl⟩, ⟨rfl, rfl⟩, ⟨?_, rfl⟩, trivial⟩⟩
      show some (Blk.smap (db x.zone.apex (.int .i64 (k : Int)) (mL m))) = _
      rw [uZ]
    . have ht : fE w.zones m x = false := ht.trans h2
      exact ⟨(k + 1, m), again _ (by rw [if_neg (by rw [ht]; simp)]), by (show w.zones.length - (k + 1) < w.zones.length - k; omega), ah.keep ⟨⟨rfl, rfl⟩, ⟨rfl, rfl⟩, ⟨rfl, rfl⟩, ⟨rfl, rfl⟩, ⟨ak (by omega), rfl⟩, trivial⟩ ⟨⟨rfl, rfl⟩, ⟨rfl, rfl⟩, ⟨rfl, rfl⟩, trivial⟩⟩
 . obtain rfl : k = w.zones.length := by simp at h1; omega
   rw [List.drop_length] at hinv
   obtain rfl : m = dU w.zones := hinv
   exact ae rfl rfl
end Go.Proofs.YtnbnldnfkikakaaGreatDoor

set_option maxRecDepth 100000
namespace NP
open NQ Go
theorem qI (a : Bs) : ao a [46] = true := by
 rw [cL]
 show ([] : List Bs) <+: _
 exact List.nil_prefix
def cz (zs : List ai) (q : ax) : Ans × Bool := gX zs (dU zs) q ((back q.name).length + 2) [46]
theorem Ca {q : ax} (h : aP q = true) : af q.name = true := by
 unfold aP at h; simp only [Bool.and_eq_true] at h; exact h.1.1
theorem qE {zs : List ai} {q : ax} (hg : nf zs) (hq : aP q = true) {m : List (Bs × Nat)} (hm : fO zs m) {a : Bs} (hu : ao q.name a = true) {f : Nat} (hf : (back q.name).length + 1 <= f + (back a).length) {i : Nat} {p : ai} (hi : dC a m = some i) (hp : zs[i]? = some p)
 (hk : ((bg p.zone q).1.kind != 4) = false) : Use p.zone q /\ ao q.name (bg p.zone q).1.cut = true /\ (back a).length < (back (bg p.zone q).1.cut).length /\ 1 <= f := by
 obtain ⟨p', hp', ha⟩ := hm a i hi
 rw [hp] at hp'; cases hp'
 obtain ⟨g1, g2⟩ := hg p (List.mem_of_getElem? hp)
 have u : Use p.zone q := ⟨g1, g2, hq, by rw [ha]; exact hu⟩
 obtain ⟨r1, r2, _⟩ := qw u hk
 rw [ha] at r2
 refine ⟨u, r1, r2, ?_⟩
 have := ((cL _ _).1 r1).length_le
 omega
end NP
namespace Go.Proofs.YtnbnldnfkikakaaGreatDoor
open NQ Go NP Go.RowKit
theorem wW (w : bt) (q : ax) (hg : nf w.zones) (hq : aP q = true) : NQ.Fn cx 48 [.agg (xh w (dU w.zones)), .agg (bA q)] (.tuple [.agg ((cR (cz w.zones q).1).map .d), .d (.bool (cz w.zones q).2)]) [] := by
 refine cM (fun _ => []) aB mixed Tryz.func48 (by kernel_rfl) rfl (Nat.le_of_ble_eq_true rfl) ?_
 conv => whnf
 refine ⟨Nat × Bs, fun x => ⟨[(2, .ptr 2 0), (3, .ptr 3 0), (4, .ptr 4 0), (6, .d (.str x.2))], [(2, .box ((xh w (dU w.zones)).map .d)), (3, .box ((bA q).map .d)), (4, .box [.d (.int .i64 0), .nil 5, .d (.str [])])]⟩,
  fun x => ao q.name x.2 = true /\ (back q.name).length + 1 <= x.1 + (back x.2).length /\ gX w.zones (dU w.zones) q (x.1 + 1) x.2 = cz w.zones q, fun x => x.1,
  ⟨((back q.name).length + 1, [46]), ⟨qI q.name, by omega, rfl⟩, ah.keep ⟨⟨rfl, rfl⟩, ⟨rfl, rfl⟩, ⟨rfl, rfl⟩, ⟨rfl, rfl⟩, trivial⟩ ⟨⟨rfl, rfl⟩, ⟨rfl, rfl⟩, ⟨rfl, rfl⟩, trivial⟩⟩, fun ⟨f, a⟩ ⟨hu, hf, hinv⟩ => ?_⟩
 dsimp only at hu hf hinv ⊢
 conv => whnf
 refine ⟨_, AH a (dU w.zones), ?_⟩
 unfold gX at hinv
 cases hfi : dC a (dU w.zones) with
 | none =>
  rw [hfi] at hinv
  conv => whnf
  refine ae rfl ?_
  rw [<- hinv]; rfl
 | some i =>
  rw [hfi] at hinv
  conv => whnf
  try (refine ⟨(by kernel_rfl : aO _ _ = true), ?_⟩; conv => whnf)
  obtain ⟨p, hp, hpa⟩ := nF w.zones a i hfi
  have hg' := hg p (List.mem_of_getElem? hp)
  refine ⟨Int.natCast_nonneg i, aR p, ay hp, ?_⟩
  conv => whnf
  (refine ⟨_, _, CO p.zone q hg'.1, ?_⟩; conv => whnf)
  dsimp only at hinv
  rw [hp] at hinv
  dsimp only at hinv
  refine ab (fun h2 => ?_) (fun h2 => ?_) <;> (rw [h2]; conv => whnf)
  . have h2' : ((bg p.zone q).1.kind != 4) = true := h2
    rw [if_pos h2'] at hinv
    refine ae rfl ?_
    rw [<- hinv]; rfl
  . have h2' : ((bg p.zone q).1.kind != 4) = false := h2
    rw [if_neg (by rw [h2']; simp)] at hinv
    obtain ⟨u, r1, r2, r3⟩ := qE hg hq (nF w.zones) hu hf hfi hp h2'
    obtain ⟨f, rfl⟩ : ∃ g, f = g + 1 := ⟨f - 1, by omega⟩
    exact ⟨(f, (bg p.zone q).1.cut), ⟨r1, by dsimp only; omega, hinv⟩, by (show f < f + 1; omega), ah.keep ⟨⟨rfl, rfl⟩, ⟨rfl, rfl⟩, ⟨rfl, rfl⟩, ⟨rfl, rfl⟩, trivial⟩ ⟨⟨rfl, rfl⟩, ⟨rfl, rfl⟩, ⟨rfl, rfl⟩, trivial⟩⟩
end Go.Proofs.YtnbnldnfkikakaaGreatDoor
namespace NP
open NQ Go
theorem qD {zs : List ai} {q : ax} (hg : nf zs) (hq : aP q = true) {m : List (Bs × Nat)} (hm : fO zs m) : ∀ (f : Nat) (a : Bs), ao q.name a = true -> ∀ x, gX zs m q f a = (x, true) -> ∃ p ∈ zs, Use p.zone q /\ x = (bg p.zone q).1 /\ (x.kind != 4) = true
 | 0, a, hu, x, h => by cases h
 | f + 1, a, hu, x, h => by
  unfold gX at h
  cases hi : dC a m with
  | none => rw [hi] at h; cases h
  | some i =>
   rw [hi] at h
   obtain ⟨p, hp, ha⟩ := hm a i hi
   dsimp only at h
   rw [hp] at h
   dsimp only at h
   have hmem := List.mem_of_getElem? hp
   obtain ⟨g1, g2⟩ := hg p hmem
   have u : Use p.zone q := ⟨g1, g2, hq, by rw [ha]; exact hu⟩
   cases hk : ((bg p.zone q).1.kind != 4) with
   | true => rw [hk, if_pos rfl] at h; cases h; exact ⟨p, hmem, u, rfl, hk⟩
   | false =>
    rw [hk, if_neg (by simp)] at h
    exact qD hg hq hm f _ (qw u hk).1 x h
theorem qz {zs : List ai} {q : ax} (hg : nf zs) (hq : aP q = true) {x : Ans} (h : cz zs q = (x, true)) : ∃ p ∈ zs, Use p.zone q /\ x = (bg p.zone q).1 /\ (x.kind != 4) = true :=
 qD hg hq (nF zs) _ _ (qI q.name) x h
theorem CM {s : ga} (h : dh s = true) (ht : s.type = 3) : ∃ d, s.data = [d] /\ af d.text = true := by
 unfold dh at h
 simp only [Bool.and_eq_true, Bool.not_eq_true', Bool.or_eq_false_iff, Bool.not_eq_false'] at h
 obtain ⟨⟨⟨⟨_, _⟩, hw⟩, hs, _⟩, hall⟩ := h
 rw [ht] at hs hall
 have h1 : s.data.length = 1 := by
  have : (dG 3).single = true := rfl
  rw [this, Bool.true_and] at hs
  have : (s.data.length : Int) = 1 := by simpa using hs
  omega
 obtain ⟨d, hd⟩ : ∃ d, s.data = [d] := List.length_eq_one_iff.1 h1
 refine ⟨d, hd, ?_⟩
 rw [hd] at hall
 have := List.all_eq_true.1 hall 0 (by simp)
 rw [sG (d := d) (p := d) rfl rfl] at this
 unfold lD at this
 simp only [Bool.not_eq_true', Bool.or_eq_false_iff, Bool.not_eq_false'] at this
 have hv := this.1
 unfold dM at hv
 simp only [Bool.and_eq_true] at hv
 have ht := hv.2
 have e : (dG 3).text = 1 := rfl
 rw [e] at ht
 simp only [iH, if_true, Bool.and_eq_true] at ht
 exact ht.1
theorem Use.CK {z : aq} {q : ax} (u : Use z q) (hk : (bg z q).1.kind = 3) : ∃ s R d, (bg z q).1.sets = s :: R /\ s ∈ z.sets /\ s.set.type = 3 /\ s.set.data = [d] /\ af d.text = true := by
 have key : ∀ (q' : ax) (rest : List Int), q'.type = 3 -> (decide (atI z.sets q' >= 0)) = true -> (bg z q).1.sets = bd z.sets [] (atI z.sets q' :: rest) -> ∃ s R d, (bg z q).1.sets = s :: R /\ s ∈ z.sets /\ s.set.type = 3 /\ s.set.data = [d] /\ af d.text = true := fun q' rest ht hat hs => by
  have hh : bl z.sets q' = true := by
   have := eY z.sets q'
   cases hc : bl z.sets q' with
   | true => rfl
   | false => rw [hc] at this; simp at this hat; omega
  obtain ⟨k, s, h1, h2, h3⟩ := j8 hh
  have hm := List.mem_of_getElem? h2
  have ht3 : s.set.type = 3 := by have := congrArg Prod.snd h3; exact (show s.set.type = q'.type from this).trans ht
  obtain ⟨d, hd, hv⟩ := CM (u.ord.set s hm) ht3
  refine ⟨s, bd z.sets ([] ++ [atI z.sets q']) rest, d, ?_, hm, ht3, hd, hv⟩
  rw [hs, bd, if_neg (by rw [h1]; simp), h1]
  simp [h2]
 rw [u.ans] at hk key ⊢
 dsimp only at hk key ⊢
 unfold cH at hk key ⊢
 split at hk
 . exfalso; rename_i hr; unfold gL at hk; rw [if_pos hr] at hk; simp at hk
 rename_i hr
 rw [if_neg hr] at key ⊢
 split at hk
 . simp [qW] at hk
 rename_i hd
 rw [if_neg hd] at key ⊢
 split at hk
 . rename_i ha
   rw [if_pos ha] at key ⊢
   have : decide (atI z.sets ⟨q.name, 3⟩ >= 0) = true := by unfold jq at ha; simp only [Bool.and_eq_true] at ha; exact ha.1
   exact key ⟨q.name, 3⟩ [] rfl this rfl
 rename_i ha
 rw [if_neg ha] at key ⊢
 split at hk
 . exfalso; rename_i hx; unfold iX at hk; rw [if_pos hx] at hk; simp at hk
 rename_i hx
 rw [if_neg hx] at key ⊢
 split at hk
 . simp [pj] at hk
 rename_i hw
 rw [if_neg hw] at key ⊢
 split at hk
 . rename_i hwa
   rw [if_pos hwa] at key ⊢
   have hs : (aJ (vw z q)).sets = z.sets := ll _
   have : decide (atI z.sets ⟨(aJ (vw z q)).bx, 3⟩ >= 0) = true := by unfold dz at hwa; simp only [Bool.and_eq_true] at hwa; rw [hs] at hwa; exact hwa.1
   refine key ⟨(aJ (vw z q)).bx, 3⟩ [cS (aJ (vw z q)).sets (aJ (vw z q)).q.name] rfl this ?_
   unfold kC
   rw [hs]
 rename_i hwa
 split at hk
 . exfalso; unfold jf at hk; (try split at hk) <;> simp at hk
 . exfalso; unfold gV at hk; (try split at hk) <;> simp at hk
def jc (zs : List ai) : Nat -> ax -> List Signed -> Ans × Int
 | 0, _, _ => (dX, 33)
 | f + 1, q, kept => if (!(cz zs q).2) = true then (dX, 34) else if ((cz zs q).1.kind != 3) = true then (⟨(cz zs q).1.kind, kept ++ (cz zs q).1.sets, (cz zs q).1.cut⟩, 0)
  else match (cz zs q).1.sets.head? with
   | some s => (match s.set.data.head? with | some d => jc zs f ⟨d.text, q.type⟩ (kept ++ [s]) | none => (dX, 0))
   | none => (dX, 0)
def iG (w : bt) (q : ax) : Ans × Int := if (bC w && aP q) = false then (dX, 1) else jc w.zones 9 q []
end NP

set_option maxRecDepth 100000
namespace NP
open NQ Go
theorem pL {n : Nat} : ∀ (l seen : List ai), de n seen l = true -> ∀ p ∈ l, aQ p.zone = true /\ 0 <= p.host /\ p.host < (n : Int)
 | [], _, _, p, hp => by cases hp
 | x :: t, seen, h, p, hp => by
  unfold de at h
  simp only [Bool.and_eq_true, Bool.not_eq_true', Bool.or_eq_false_iff, Bool.not_eq_false', decide_eq_false_iff_not] at h
  rcases List.mem_cons.1 hp with rfl | hp
  . exact ⟨h.1.2, by omega, by omega⟩
  . exact pL t _ h.2 p hp
theorem mZ {w : bt} (h : bC w = true) : ∀ p ∈ w.zones, aQ p.zone = true /\ 0 <= p.host /\ p.host < (w.hosts.length : Int) := by
 unfold bC iN at h
 simp only [Bool.and_eq_true] at h
 exact pL _ _ h.1.2.1.2
structure mA (w : bt) : Prop where
 hosts : w.hosts.length <= 1000
 zones : w.zones.length <= 1000
 hints : w.hints.length <= 1000
 few : ∀ p ∈ w.zones, dj p.zone = true
end NP
namespace Go.Proofs.YtnbnldnfkikakaaGreatDoor
open NQ Go NP Go.RowKit
set_option maxHeartbeats 1000000 in
theorem za (w : bt) (q0 : ax) (hF : mA w) : NQ.Fn cx 14 [.agg (bH w), .agg (bA q0)] (.tuple [.agg ((cR (iG w q0).1).map .d), .d (.int .i64 (iG w q0).2)]) [] := by
 refine cM (fun _ => []) aB mixed Tryz.func14 (by kernel_rfl) rfl (Nat.le_of_ble_eq_true rfl) ?_
 conv => whnf
 (refine ⟨_, _, lS w (by have := hF.hosts; omega) (by have := hF.zones; omega) (by have := hF.hints; omega), ?_⟩; conv => whnf)
 have bad : ∀ (b : Bool), (bC w && aP q0) = false -> iG w q0 = (dX, 1) := fun _ h => by unfold iG; rw [if_pos h]
 repeat' (first | (refine ⟨_, _, wE q0, ?_⟩; conv => whnf) | (refine ab (fun h => ?_) (fun h => ?_) <;> (rw [h]; conv => whnf)) | fail)
 . refine ae rfl ?_
   rw [bad true (by simp_all)]; rfl
 . refine ae rfl ?_
   rw [bad true (by simp_all)]; rfl
 have hval : bC w = true := by simpa using ‹(!bC w) = false›
 have hq0 : aP q0 = true := by simpa using ‹(!aP q0) = false›
 have hg : nf w.zones := fun p hp => ⟨hF.few p hp, (mZ hval p hp).1⟩
 have htr : iG w q0 = jc w.zones 9 q0 [] := by unfold iG; rw [if_neg (by rw [hval, hq0]; simp)]
 (refine ⟨_, _, BT w (by have := hF.zones; omega), ?_⟩; conv => whnf)
 refine ⟨ax × List Signed, fun x => ⟨[(2, .ptr 2 0), (3, .ptr 3 0), (4, .ptr 4 0), (6, .ptr 6 0), (7, .own 7)], [(2, .box ((bH w).map .d)), (3, .box ((bA x.1).map .d)), (4, .box [.d (.int .i64 0), .nil 5, .d (.str [])]), (6, .box ((xh w (dU w.zones)).map .d)), (7, .row 63 5 (x.2.map ag))]⟩,
  fun x => aP x.1 = true /\ x.2.length <= 8 /\ jc w.zones (9 - x.2.length) x.1 x.2 = iG w q0, fun x => 9 - x.2.length,
  ⟨(q0, []), ⟨hq0, by simp, by rw [htr]; rfl⟩, (ah.rr 7 7 5 63 5 rfl rfl (by decide)).trans (ah.keep ⟨⟨rfl, rfl⟩, ⟨rfl, rfl⟩, ⟨rfl, rfl⟩, ⟨rfl, rfl⟩, ⟨rfl, rfl⟩, trivial⟩ ⟨⟨rfl, rfl⟩, ⟨rfl, rfl⟩, ⟨rfl, rfl⟩, ⟨rfl, rfl⟩, ⟨rfl, rfl⟩, trivial⟩)⟩, fun ⟨q, kept⟩ ⟨hq, hkl, hinv⟩ => ?_⟩
 dsimp only at hq hkl hinv ⊢
 conv => whnf
 obtain ⟨f, hf⟩ : ∃ f, 9 - kept.length = f + 1 := ⟨8 - kept.length, by omega⟩
 rw [hf] at hinv
 unfold jc at hinv
 (refine ⟨_, _, wW w q hg hq, ?_⟩; conv => whnf)
 refine ab (fun h1 => ?_) (fun h1 => ?_) <;> (rw [h1]; conv => whnf)
 . rw [if_pos h1] at hinv
   refine ae rfl ?_
   rw [<- hinv]; rfl
 rw [if_neg (by rw [h1]; simp)] at hinv
 have hok : (cz w.zones q).2 = true := by simpa using h1
 obtain ⟨p, hpm, u, hpa, hp4⟩ := qz hg hq (x := (cz w.zones q).1) (by rw [<- hok])
 have hal : (cz w.zones q).1.sets.length <= 1000 := by rw [hpa]; exact Ao u.few q
 refine ab (fun h2 => ?_) (fun h2 => ?_) <;> (rw [h2]; conv => whnf)
 . rw [if_pos h2] at hinv
   refine ⟨by (show (kept.map ag).length + ((cz w.zones q).1.sets.map ag).length <= _); simp; omega, by (show ((kept.map ag).length + ((cz w.zones q).1.sets.map ag).length) * 80 <= _); simp; omega, ?_⟩
   conv => whnf
   refine ae rfl ?_
   rw [<- hinv]
   show AV.tuple _ = AV.tuple _
   simp [cR]; exact ⟨rfl, rfl⟩
 rw [if_neg (by rw [h2]; simp)] at hinv
 have hk3 : (bg p.zone q).1.kind = 3 := by rw [<- hpa]; simpa using h2
 obtain ⟨s, R, d, hs, hsm, hst, hsd, hdv⟩ := u.CK hk3
 rw [<- hpa] at hs
 rw [hs] at hinv
 simp only [List.head?_cons, hsd] at hinv
 refine ab (fun h3 => ?_) (fun h3 => ?_) <;> (rw [h3]; conv => whnf)
 . have hl8 : kept.length = 8 := by simp at h3; omega
   have : f = 0 := by omega
   subst this
   refine ae rfl ?_
   rw [<- hinv]; rfl
 . rw [hs]
   refine ⟨by decide, ag s, rfl, ?_⟩
   conv => whnf
   refine ⟨by (show (kept.map ag).length + 1 <= _); simp; omega, by (show ((kept.map ag).length + 1) * 80 <= _); simp; omega, ?_⟩
   conv => whnf
   refine ⟨by decide, ag s, rfl, ?_⟩
   conv => whnf
   refine ⟨by decide, bG d, (by rw [hsd]; rfl : (s.set.data.map bG)[(0 : Int).toNat]? = some (bG d)), ?_⟩
   conv => whnf
   have hl8 : kept.length < 8 := by simp at h3; omega
   refine ⟨(⟨d.text, q.type⟩, kept ++ [s]), ⟨?_, by simp; omega, ?_⟩, by (show 9 - (kept ++ [s]).length < 9 - kept.length); simp; omega, ah.keep ⟨⟨rfl, rfl⟩, ⟨rfl, rfl⟩, ⟨rfl, rfl⟩, ⟨rfl, rfl⟩, ⟨rfl, rfl⟩, trivial⟩ ⟨⟨rfl, rfl⟩, ⟨rfl, rfl⟩, ⟨rfl, rfl⟩, ⟨rfl, rfl⟩, ⟨?_, rfl⟩, trivial⟩⟩
   . unfold aP at hq ⊢
     simp only [Bool.and_eq_true] at hq ⊢
     exact ⟨⟨hdv, hq.1.2⟩, hq.2⟩
   . rw [<- hinv]
     congr 1
     simp; omega
   . show some (Blk.row _ _ (kept.map ag ++ [ag s]) _) = _
     rw [List.map_append]; rfl
end Go.Proofs.YtnbnldnfkikakaaGreatDoor
