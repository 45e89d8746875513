/-
  Texts of the proof, merged in build order.
-/
import Derived.Test.YtnbnldnfkikakaaGreatDoorMQrc
import Derived.Test.YtnbnldnfkikakaaGreatDoorMLrc
set_option linter.all false
set_option maxRecDepth 100000
namespace NP
open NQ Go
structure ja where
 name : Bs
 addr : Int
 owner : Int
 deriving DecidableEq
structure af where
 host : Int
 zone : aq
 deriving DecidableEq
structure bg where
 hosts : List ja
 zones : List af
 anchor : gP
 hints : List Int
def du (h : ja) : List D := [.str h.name, .int .i64 h.addr, .int .i64 h.owner]
def aQ (p : af) : List D := [.int .i64 p.host, .str p.zone.apex, .slice 5 (p.zone.sets.map aj)]
def bz (w : bg) : List D := [.slice 3 (w.hosts.map du), .slice 3 (w.zones.map aQ), .str w.anchor.name, .int .i64 w.anchor.type, .int .i64 w.anchor.life, .slice 3 (w.anchor.data.map bP), .slice 1 (w.hints.map fun n => [.int .i64 n])]
def bG (f : af -> Bool) : Nat -> List af -> List (List D)
 | _, [] => []
 | i, p :: t => if f p = true then [.int .i64 i, .agg (aQ p)] :: bG f (i + 1) t else bG f (i + 1) t
theorem mi (f : af -> Bool) : ∀ (i : Nat) (a b : List af), bG f i (a ++ b) = bG f i a ++ bG f (i + a.length) b
 | i, [], b => by simp [bG]
 | i, p :: t, b => by
  simp only [List.cons_append, bG]
  rw [mi f (i + 1) t b]
  have : i + 1 + t.length = i + (p :: t).length := by simp; omega
  rw [this]
  split <;> rfl
theorem jQ {f : af -> Bool} {l : List af} {k : Nat} {p : af} (h : l[k]? = some p) : bG f 0 (l.take (k + 1)) = bG f 0 (l.take k) ++ (if f p = true then [[.int .i64 k, .agg (aQ p)]] else []) := by
 have hk := (List.getElem?_eq_some_iff.1 h).1
 rw [List.take_add_one, h, mi]
 have : (l.take k).length = k := by simp; omega
 rw [this]
 simp [bG]
theorem xD {f : af -> Bool} {l : List af} {k : Nat} {p : af} (h : l[k]? = some p) (hf : f p = true) : (bG f 0 l)[(bG f 0 (l.take k)).length]? = some [.int .i64 k, .agg (aQ p)] := by
 have e : l = l.take (k + 1) ++ l.drop (k + 1) := (List.take_append_drop ..).symm
 have h2 := mi f 0 (l.take (k + 1)) (l.drop (k + 1))
 rw [<- e] at h2
 rw [h2, jQ h, if_pos hf]
 simp
end NP
namespace Go.Proofs.YtnbnldnfkikakaaGreatDoor
open NQ Go NP Go.RowKit
theorem xc (w : bg) (okf : FuncId) (x y : D) (f : af -> Bool) (hf : ∀ p ∈ w.zones, NQ.Fn cx okf [.agg (aQ p), x, y] (.d (.bool (f p))) []) (hc : cx.chg okf = 0) (hn : w.zones.length <= 100000) :
 sV cx 91 [.ptr (bz w), .ptr [.fn okf [] [x, y]]] (bG f 0 w.zones) := by
 refine rG (fun | 3 => [77777] | _ => []) az mixed Tryz.func91 (by kernel_rfl) rfl rfl (Nat.le_of_ble_eq_true rfl) ?_
 conv => whnf
 refine ⟨rfl, ?_⟩
 conv => whnf
 refine ⟨Nat, fun k => (((bG f 0 (w.zones.take k)).length, true), ⟨[(1, .d (.ptr (bz w))), (2, .d (.ptr [.fn okf [] [x, y]])), (7, .d (.slice 3 (w.zones.map aQ))), (8, .d (.int .i64 ((w.zones.map aQ).length : Int))), (9, .d (.int .i64 k))], []⟩),
  fun k => k <= w.zones.length, fun k => w.zones.length - k, ⟨0, Nat.zero_le _, by simp [bG], ai.keep ⟨⟨rfl, rfl⟩, ⟨rfl, rfl⟩, ⟨rfl, rfl⟩, ⟨rfl, rfl⟩, ⟨rfl, rfl⟩, trivial⟩ trivial⟩, fun k hk => ?_⟩
 conv => whnf
 refine ⟨rfl, ?_⟩
 conv => whnf
 refine ab (fun h1 => ?_) (fun h1 => ?_) <;> (rw [h1]; conv => whnf)
 . obtain ⟨p, hp⟩ : ∃ p, w.zones[k]? = some p := ⟨_, List.getElem?_eq_getElem (by simpa using h1)⟩
   have hkl := (List.getElem?_eq_some_iff.1 hp).1
   refine ⟨rfl, ?_⟩
   conv => whnf
   refine ⟨Int.natCast_nonneg k, aQ p, ax hp, ?_⟩
   conv => whnf
   refine ⟨rfl, ?_⟩
   conv => whnf
   refine ⟨rfl, ?_⟩
   conv => whnf
   refine ⟨rfl, ?_⟩
   conv => whnf
   rw [hc]
   conv => whnf
   (refine ⟨_, _, hf p (List.mem_of_getElem? hp), ?_⟩; conv => whnf)
   repeat' (first | (refine ⟨rfl, ?_⟩; conv => whnf) | (refine ab (fun h => ?_) (fun h => ?_) <;> (rw [h]; conv => whnf)))
   . refine ⟨_, xD hp h, rfl, fun b => ?_⟩
     conv => whnf
     cases b with
     | true =>
      repeat' (first | (refine ⟨rfl, ?_⟩; conv => whnf) | fail)
      refine ⟨k + 1, by show k + 1 <= _; omega, by show w.zones.length - (k + 1) < w.zones.length - k; omega, ?_, ai.keep ⟨⟨rfl, rfl⟩, ⟨rfl, rfl⟩, ⟨rfl, rfl⟩, ⟨rfl, rfl⟩, ⟨ak (by omega), rfl⟩, trivial⟩ trivial⟩
      show ((bG f 0 (List.take (k + 1) w.zones)).length, true) = ((bG f 0 (List.take k w.zones)).length + 1, true)
      rw [jQ hp, if_pos h]; simp
     | false =>
      repeat' (first | (refine ⟨rfl, ?_⟩; conv => whnf) | fail)
      exact ⟨trivial, fun h => by cases h⟩
   . refine ⟨k + 1, by show k + 1 <= _; omega, by show w.zones.length - (k + 1) < w.zones.length - k; omega, ?_, ai.keep ⟨⟨rfl, rfl⟩, ⟨rfl, rfl⟩, ⟨rfl, rfl⟩, ⟨rfl, rfl⟩, ⟨ak (by omega), rfl⟩, trivial⟩ trivial⟩
     show ((bG f 0 (List.take (k + 1) w.zones)).length, true) = ((bG f 0 (List.take k w.zones)).length, true)
     rw [jQ hp, if_neg (by rw [h]; simp)]; simp
 . refine ⟨trivial, fun _ => ?_⟩
   obtain rfl : k = w.zones.length := by simp at h1; omega
   simp
theorem w9 (w : bg) (okf : FuncId) (x : D) (f : af -> Bool) (hf : ∀ p ∈ w.zones, NQ.Fn cx okf [.agg (aQ p), x] (.d (.bool (f p))) []) (hc : cx.chg okf = 0) (hn : w.zones.length <= 100000) :
 sV cx 91 [.ptr (bz w), .ptr [.fn okf [] [x]]] (bG f 0 w.zones) := by
 refine rG (fun | 3 => [77777] | _ => []) az mixed Tryz.func91 (by kernel_rfl) rfl rfl (Nat.le_of_ble_eq_true rfl) ?_
 conv => whnf
 refine ⟨rfl, ?_⟩
 conv => whnf
 refine ⟨Nat, fun k => (((bG f 0 (w.zones.take k)).length, true), ⟨[(1, .d (.ptr (bz w))), (2, .d (.ptr [.fn okf [] [x]])), (7, .d (.slice 3 (w.zones.map aQ))), (8, .d (.int .i64 ((w.zones.map aQ).length : Int))), (9, .d (.int .i64 k))], []⟩),
  fun k => k <= w.zones.length, fun k => w.zones.length - k, ⟨0, Nat.zero_le _, by simp [bG], ai.keep ⟨⟨rfl, rfl⟩, ⟨rfl, rfl⟩, ⟨rfl, rfl⟩, ⟨rfl, rfl⟩, ⟨rfl, rfl⟩, trivial⟩ trivial⟩, fun k hk => ?_⟩
 conv => whnf
 refine ⟨rfl, ?_⟩
 conv => whnf
 refine ab (fun h1 => ?_) (fun h1 => ?_) <;> (rw [h1]; conv => whnf)
 . obtain ⟨p, hp⟩ : ∃ p, w.zones[k]? = some p := ⟨_, List.getElem?_eq_getElem (by simpa using h1)⟩
   have hkl := (List.getElem?_eq_some_iff.1 hp).1
   refine ⟨rfl, ?_⟩
   conv => whnf
   refine ⟨Int.natCast_nonneg k, aQ p, ax hp, ?_⟩
   conv => whnf
   refine ⟨rfl, ?_⟩
   conv => whnf
   refine ⟨rfl, ?_⟩
   conv => whnf
   refine ⟨rfl, ?_⟩
   conv => whnf
   rw [hc]
   conv => whnf
   (refine ⟨_, _, hf p (List.mem_of_getElem? hp), ?_⟩; conv => whnf)
   repeat' (first | (refine ⟨rfl, ?_⟩; conv => whnf) | (refine ab (fun h => ?_) (fun h => ?_) <;> (rw [h]; conv => whnf)))
   . refine ⟨_, xD hp h, rfl, fun b => ?_⟩
     conv => whnf
     cases b with
     | true =>
      repeat' (first | (refine ⟨rfl, ?_⟩; conv => whnf) | fail)
      refine ⟨k + 1, by show k + 1 <= _; omega, by show w.zones.length - (k + 1) < w.zones.length - k; omega, ?_, ai.keep ⟨⟨rfl, rfl⟩, ⟨rfl, rfl⟩, ⟨rfl, rfl⟩, ⟨rfl, rfl⟩, ⟨ak (by omega), rfl⟩, trivial⟩ trivial⟩
      show ((bG f 0 (List.take (k + 1) w.zones)).length, true) = ((bG f 0 (List.take k w.zones)).length + 1, true)
      rw [jQ hp, if_pos h]; simp
     | false =>
      repeat' (first | (refine ⟨rfl, ?_⟩; conv => whnf) | fail)
      exact ⟨trivial, fun h => by cases h⟩
   . refine ⟨k + 1, by show k + 1 <= _; omega, by show w.zones.length - (k + 1) < w.zones.length - k; omega, ?_, ai.keep ⟨⟨rfl, rfl⟩, ⟨rfl, rfl⟩, ⟨rfl, rfl⟩, ⟨rfl, rfl⟩, ⟨ak (by omega), rfl⟩, trivial⟩ trivial⟩
     show ((bG f 0 (List.take (k + 1) w.zones)).length, true) = ((bG f 0 (List.take k w.zones)).length, true)
     rw [jQ hp, if_neg (by rw [h]; simp)]; simp
 . refine ⟨trivial, fun _ => ?_⟩
   obtain rfl : k = w.zones.length := by simp at h1; omega
   simp
end Go.Proofs.YtnbnldnfkikakaaGreatDoor

set_option maxRecDepth 100000
namespace Go.Proofs.YtnbnldnfkikakaaGreatDoor
open NQ Go NP Go.RowKit
theorem u7 (w : bg) (okf : FuncId) (caps : List D) : NQ.Fn cx 38 [.agg (bz w), .fn okf [] caps] (.d (.fn 91 [] [.ptr (bz w), .ptr [.fn okf [] caps]])) [] := by
 refine de (fun | 1 => [2, 3] | _ => []) az mixed Tryz.func38 (by kernel_rfl) rfl (Nat.le_of_ble_eq_true rfl) ?_
 conv => whnf
 exact ae rfl rfl
theorem vS (s a : Bs) : NQ.Fn cx 40 [.str s, .str a] (.d (.bool (aD s a).1)) [] := by
 refine ao az mixed Tryz.func40 (by kernel_rfl) rfl (Nat.le_of_ble_eq_true rfl) ?_; conv => whnf
 (refine ⟨_, _, j7 s a, ?_⟩; conv => whnf)
 exact ae rfl rfl
theorem CK (s : Bs) (p : af) : NQ.Fn cx 50 [.agg (aQ p), .ptr [.str s]] (.d (.bool (aD s p.zone.apex).1)) [] := by
 refine ao az mixed Tryz.func50 (by kernel_rfl) rfl (Nat.le_of_ble_eq_true rfl) ?_; conv => whnf
 (refine ⟨_, _, vS s p.zone.apex, ?_⟩; conv => whnf)
 exact ae rfl rfl
theorem D2 (host : Int) (q : ay) (p : af) : NQ.Fn cx 39 [.agg (aQ p), .ptr [.int .i64 host], .ptr (bE q)] (.d (.bool (decide (p.host = host) && (aD q.name p.zone.apex).1))) [] := by
 refine ao az mixed Tryz.func39 (by kernel_rfl) rfl (Nat.le_of_ble_eq_true rfl) ?_; conv => whnf
 repeat' (first | (refine ⟨_, _, vS q.name p.zone.apex, ?_⟩; conv => whnf) | (refine ab (fun h => ?_) (fun h => ?_) <;> (rw [h]; conv => whnf)) | fail)
 all_goals (refine ae rfl ?_; show AV.d (D.bool _) = AV.d (D.bool _); congr 2; simp_all; done)
end Go.Proofs.YtnbnldnfkikakaaGreatDoor
namespace NP
open NQ Go
def cZ (s : Bs) : Int := ((cg s).1.length : Int)
end NP
namespace Go.Proofs.YtnbnldnfkikakaaGreatDoor
open NQ Go NP Go.RowKit
theorem qD (s : Bs) : NQ.Fn cx 43 [.str s] (.d (.int .i64 (cZ s))) [] := by
 refine ao az mixed Tryz.func43 (by kernel_rfl) rfl (Nat.le_of_ble_eq_true rfl) ?_; conv => whnf
 (refine ⟨_, _, pn s, ?_⟩; conv => whnf)
 refine ae rfl ?_
 show AV.d (.int .i64 (((cg s).1.map aM).length : Int)) = _
 rw [List.length_map]; rfl
end Go.Proofs.YtnbnldnfkikakaaGreatDoor

set_option maxRecDepth 100000
namespace NP
open NQ Go
def eY (s : Bs) : List af -> Bs × Int -> Bs × Int
 | [], b => b
 | p :: t, b => eY s t (if (aD s p.zone.apex).1 = true /\ b.2 < cZ p.zone.apex then (p.zone.apex, cZ p.zone.apex) else b)
def gT (valid : Bool) (w : bg) (s : Bs) : Bs × Int :=
 if (valid && ah s) = false then ([], 1) else if (eY s w.zones ([], -1)).2 < 0 then ([], 4) else ((eY s w.zones ([], -1)).1, 0)
theorem mj (f : af -> Bool) : ∀ (i : Nat) (l : List af) (k : Nat) (x : List D), (bG f i l)[k]? = some x -> ∃ j p, x = [.int .i64 (j : Nat), .agg (aQ p)] /\ (l.filter f)[k]? = some p
 | i, [], k, x, h => by simp [bG] at h
 | i, p :: t, k, x, h => by
  unfold bG at h
  by_cases hp : f p = true
  . rw [if_pos hp] at h
    rw [List.filter_cons_of_pos hp]
    cases k with
    | zero => cases h; exact ⟨i, p, rfl, rfl⟩
    | succ k => exact mj f (i + 1) t k x (by simpa using h)
  . rw [if_neg hp] at h
    rw [List.filter_cons_of_neg hp]
    exact mj f (i + 1) t k x h
theorem vk (f : af -> Bool) (i : Nat) (l : List af) (x : List D) (h : x ∈ bG f i l) : x.length = 2 := by
 obtain ⟨k, hk⟩ := List.getElem?_of_mem h
 obtain ⟨j, p, rfl, _⟩ := mj f i l k x hk
 rfl
theorem lJ (f : af -> Bool) : ∀ (i : Nat) (l : List af), (bG f i l).length = (l.filter f).length
 | i, [] => rfl
 | i, p :: t => by
  unfold bG
  by_cases hp : f p = true
  . rw [if_pos hp, List.filter_cons_of_pos hp, List.length_cons, List.length_cons, lJ f (i + 1) t]
  . rw [if_neg hp, List.filter_cons_of_neg hp, lJ f (i + 1) t]
def hAt (s : Bs) (w : bg) (k : Nat) : Bs × Int := eY s ((w.zones.filter fun p => (aD s p.zone.apex).1).take k) ([], -1)
theorem xG (s : Bs) : ∀ (a : List af) (p : af) (b : Bs × Int), eY s (a ++ [p]) b = eY s [p] (eY s a b)
 | [], p, b => rfl
 | x :: a, p, b => xG s a p _
theorem xE {s : Bs} {w : bg} {k : Nat} {p : af} (h : (w.zones.filter fun p => (aD s p.zone.apex).1)[k]? = some p) : hAt s w (k + 1) = if (hAt s w k).2 < cZ p.zone.apex then (p.zone.apex, cZ p.zone.apex) else hAt s w k := by
 have hu : (aD s p.zone.apex).1 = true := (List.mem_filter.1 (List.mem_of_getElem? h)).2
 unfold hAt
 rw [List.take_add_one, h]
 show eY s (_ ++ [p]) _ = _
 rw [xG]
 simp only [eY, hu, true_and]
theorem nC (s : Bs) : ∀ (l : List af) (b : Bs × Int), eY s (l.filter fun p => (aD s p.zone.apex).1) b = eY s l b
 | [], b => rfl
 | p :: t, b => by
  by_cases hp : (aD s p.zone.apex).1 = true
  . rw [List.filter_cons_of_pos (p := fun p : af => (aD s p.zone.apex).1) hp]; exact nC s t _
  . rw [List.filter_cons_of_neg (p := fun p : af => (aD s p.zone.apex).1) hp, nC s t b]
    show _ = eY s t (if _ then _ else b)
    rw [if_neg (fun h => hp h.1)]
theorem zU (s : Bs) (w : bg) : hAt s w (bG (fun p => (aD s p.zone.apex).1) 0 w.zones).length = eY s w.zones ([], -1) := by
 rw [lJ]
 unfold hAt
 rw [List.take_length, nC]
theorem yD (x y : Blk) : ∀ q ∈ [100006, 100007], live [(100006, x), (100007, y)] q := fun q hq => by
 rcases List.mem_cons.1 hq with rfl | hq
 . exact au.2 ⟨x, aC ..⟩
 . rcases List.mem_cons.1 hq with rfl | hq
   . exact au.2 ⟨y, by rw [aI _ _ (by omega), aC]⟩
   . cases hq
end NP
namespace Go.Proofs.YtnbnldnfkikakaaGreatDoor
open NQ Go NP Go.RowKit
theorem GM (w : bg) (s : Bs) (v : Bool) (hv : NQ.Fn cx 19 [.agg (bz w)] (.d (.bool v)) []) (hn : w.zones.length <= 100000) : NQ.Fn cx 16 [.agg (bz w), .str s] (.tuple [.d (.str (gT v w s).1), .d (.int .i64 (gT v w s).2)]) [] := by
 refine vi (fun | 4 => [3] | _ => []) az mixed Tryz.func16 (by kernel_rfl) rfl (Nat.le_of_ble_eq_true rfl) ?_
 conv => whnf
 repeat' (first | (refine ⟨_, _, hv, ?_⟩; conv => whnf) | (refine ⟨_, _, gW s, ?_⟩; conv => whnf) | (refine ab (fun h => ?_) (fun h => ?_) <;> (rw [h]; conv => whnf)) | fail)
 . have e : gT v w s = ([], 1) := by unfold gT; simp_all
   rw [e]
   exact ae rfl rfl
 . have e : gT v w s = ([], 1) := by unfold gT; simp_all
   rw [e]
   exact ae rfl rfl
 (refine ⟨_, _, u7 w _ _, ?_⟩; conv => whnf)
 refine ⟨91, _, _, [(6, .ptr 100006 0), (7, .ptr 100007 0), (21, .d (.fn 91 [] [.ptr (bz w), .ptr [.fn 50 [] [.ptr [.str s]]]]))],
  fun k => [(100006, .box [.d (.str (hAt s w k).1)]), (100007, .box [.d (.int .i64 (hAt s w k).2)])], [100006, 100007], (kH.ren [6, 7] (by kernel_rfl)).trans (ai.zero (ai.keep ⟨⟨(by kernel_rfl), (by kernel_rfl)⟩, ⟨(by kernel_rfl), (by kernel_rfl)⟩, ⟨(by kernel_rfl), (by kernel_rfl)⟩, trivial⟩ ⟨⟨(by kernel_rfl), (by kernel_rfl)⟩, ⟨(by kernel_rfl), (by kernel_rfl)⟩, trivial⟩)),
  ⟨rfl, w9 w 50 (.ptr [.str s]) (fun p => (aD s p.zone.apex).1) (fun p _ => CK s p) rfl hn, ?_, rfl, rfl⟩, ⟨Nat.le_of_ble_eq_true rfl, ?_, rfl, by kernel_rfl⟩, ?_, ?_⟩
 . intro x hx
   exact vk _ _ _ x hx
 . intro q hq
   rcases List.mem_cons.1 hq with rfl | hq
   . exact ⟨by omega, [.d (.str (hAt s w 0).1)], by kernel_rfl⟩
   . rcases List.mem_cons.1 hq with rfl | hq
     . exact ⟨by omega, [.d (.int .i64 (hAt s w 0).2)], by kernel_rfl⟩
     . cases hq
 . intro k x hx
   obtain ⟨i, p, rfl, hp⟩ := mj _ _ _ k x hx
   conv => whnf
   (refine ⟨_, _, qD p.zone.apex, ?_⟩; conv => whnf)
   refine ab (fun h3 => ?_) (fun h3 => ?_) <;> (rw [h3]; conv => whnf)
   . have e : hAt s w (k + 1) = (p.zone.apex, cZ p.zone.apex) := by rw [xE hp, if_pos (by simpa using h3)]
     refine ⟨?_, fun q hq => ?_⟩
     . show ai cx _ ⟨[], [(100006, .box [.d (.str (hAt s w (k + 1)).1)]), (100007, .box [.d (.int .i64 (hAt s w (k + 1)).2)])]⟩
       rw [e]
       exact ai.keep trivial ⟨⟨(by kernel_rfl), (by kernel_rfl)⟩, ⟨(by kernel_rfl), (by kernel_rfl)⟩, trivial⟩
     . exact yD _ _ q hq
   . have e : hAt s w (k + 1) = hAt s w k := by rw [xE hp, if_neg (by simpa using h3)]
     refine ⟨?_, fun q hq => ?_⟩
     . show ai cx _ ⟨[], [(100006, .box [.d (.str (hAt s w (k + 1)).1)]), (100007, .box [.d (.int .i64 (hAt s w (k + 1)).2)])]⟩
       rw [e]
       exact ai.keep trivial ⟨⟨(by kernel_rfl), (by kernel_rfl)⟩, ⟨(by kernel_rfl), (by kernel_rfl)⟩, trivial⟩
     . exact yD _ _ q hq
 . conv => whnf
   rw [zU]
   (refine ab (fun h => ?_) (fun h => ?_) <;> (rw [h]; conv => whnf))
   . have e : gT v w s = ([], 4) := by unfold gT; simp_all
     rw [e]
     exact ae rfl rfl
   . have e : gT v w s = ((eY s w.zones ([], -1)).1, 0) := by unfold gT; simp_all
     rw [e]
     refine ae rfl ?_
     rw [zU]
     rfl
end Go.Proofs.YtnbnldnfkikakaaGreatDoor

set_option maxRecDepth 100000
namespace Go.Proofs.YtnbnldnfkikakaaGreatDoor
open NQ Go NP Go.RowKit
theorem Fh (p q : af) : NQ.Fn cx 95 [.agg (aQ p), .agg (aQ q)] (.d (.bool (decide ((ee p.zone).1 > (ee q.zone).1) || (decide ((ee p.zone).1 = (ee q.zone).1) && decide (p.host < q.host))))) [] := by
 refine ao az mixed Tryz.func95 (by kernel_rfl) rfl (Nat.le_of_ble_eq_true rfl) ?_; conv => whnf
 (refine ⟨_, _, vG p.zone, ?_⟩; conv => whnf)
 (refine ⟨_, _, vG q.zone, ?_⟩; conv => whnf)
 repeat' (first | (refine ab (fun h => ?_) (fun h => ?_) <;> (rw [h]; conv => whnf)) | fail)
 all_goals (refine ae rfl ?_; show AV.d (D.bool _) = AV.d (D.bool _); congr 2 <;> simp_all)
end Go.Proofs.YtnbnldnfkikakaaGreatDoor

set_option maxRecDepth 100000
namespace NP
open NQ Go
def dq (n : Int) : Bool := decide (n >= 1) && decide (n <= 1000000)
def pf (s : Bs) : Bool := (cg s).1.head? == some [42]
theorem FZ {s : Bs} (h : ah s = true) : pf s = cB s := by
 rw [vT h]; unfold pf cg; rw [if_pos h]
def uk (l : List Int) : List (List D × D) := l.map fun a => ([.tuple [.int .i64 a]], .bool true)
theorem pv (a : Int) : ∀ l : List Int, jV (.int .i64 a) (uk l) = some (if l.contains a = true then some (.bool true) else none)
 | [] => rfl
 | x :: l => by
  show (match eZ (.int .i64 a) [.tuple [.int .i64 x]] with | some true => _ | some false => jV (.int .i64 a) (uk l) | none => none) = _
  have : eZ (.int .i64 a) [.tuple [.int .i64 x]] = some (a == x) := by simp [eZ]
  rw [this]
  cases h : (a == x) with
  | true => have e : a = x := by simpa using h
            subst e; simp
  | false => simp only [List.contains_cons, h, Bool.false_or]; exact pv a l
theorem DX {a : Int} {l : List Int} (h : l.contains a = false) : qX (.int .i64 a) (.bool true) (uk l) = some (uk (l ++ [a])) := by
 rw [BL (by rw [pv, h]; rfl)]
 simp [uk]
def gJ : List Int -> List ja -> Bool
 | _, [] => true
 | seen, h :: t => !(!ah h.name || pf h.name || decide (h.owner < 0) || decide (h.owner >= 32)) && !(!dq h.addr || seen.contains h.addr) && gJ (seen ++ [h.addr]) t
def iU (l : List ja) : Bool := decide ((l.length : Int) <= 64) && gJ [] l
theorem tA {l : List ja} {k : Nat} {h : ja} (hh : l[k]? = some h) (seen : List Int) : gJ seen (l.drop k) = (!(!ah h.name || pf h.name || decide (h.owner < 0) || decide (h.owner >= 32)) && !(!dq h.addr || seen.contains h.addr) && gJ (seen ++ [h.addr]) (l.drop (k + 1))) := by
 rw [drop_cons hh]; rfl
def kP (s : gP) (hints : List Int) : Bool := cv s && (s.type == 6) && (s.name == [46]) && decide ((hints.length : Int) >= 1) && decide ((hints.length : Int) <= 8) && hints.all dq
end NP
namespace Go.Proofs.YtnbnldnfkikakaaGreatDoor
open NQ Go NP Go.RowKit
theorem vR (q : ay) : NQ.Fn cx 35 [.agg (bE q)] (.d (.bool (bc q))) [] := by
 refine ao az mixed Tryz.func35 (by kernel_rfl) rfl (Nat.le_of_ble_eq_true rfl) ?_; conv => whnf
 (refine ⟨_, _, gW q.name, ?_⟩; conv => whnf)
 repeat' (first | (refine ab (fun h => ?_) (fun h => ?_) <;> (rw [h]; conv => whnf)) | (refine ae rfl ?_; show AV.d (D.bool false) = _; (try simp only [List.length_map] at *); simp only [bc, *, if_true, if_false, Bool.false_eq_true, Bool.not_true, Bool.not_false, Bool.not_not, Bool.true_or, Bool.or_true, Bool.false_or, Bool.or_false, Bool.and_true, Bool.true_and, Bool.false_and, Bool.and_false]; done) | (refine ae rfl ?_; show AV.d (D.bool true) = _; (try simp only [List.length_map] at *); simp only [bc, *, if_true, if_false, Bool.false_eq_true, Bool.not_true, Bool.not_false, Bool.not_not, Bool.true_or, Bool.or_true, Bool.false_or, Bool.or_false, Bool.and_true, Bool.true_and, Bool.false_and, Bool.and_false]; done) | fail)
 all_goals (refine ae rfl ?_; show AV.d (D.bool _) = AV.d (D.bool _); congr 2; simp_all [bc])
theorem yK (n : Int) : NQ.Fn cx 98 [.int .i64 n] (.d (.bool (dq n))) [] := by
 refine ao az mixed Tryz.func98 (by kernel_rfl) rfl (Nat.le_of_ble_eq_true rfl) ?_; conv => whnf
 repeat' (first | (refine ab (fun h => ?_) (fun h => ?_) <;> (rw [h]; conv => whnf)) | fail)
 all_goals (refine ae rfl ?_; show AV.d (D.bool _) = AV.d (D.bool _); congr 2; unfold dq; simp only [*, if_true, if_false, Bool.false_eq_true, Bool.not_true, Bool.not_false, Bool.not_not, Bool.true_or, Bool.or_true, Bool.false_or, Bool.or_false, Bool.and_true, Bool.true_and, Bool.false_and, Bool.and_false])
theorem FX (n : Int) : NQ.Fn cx 100 [.int .i64 n] (.d (.bool (!dq n))) [] := by
 refine ao az mixed Tryz.func100 (by kernel_rfl) rfl (Nat.le_of_ble_eq_true rfl) ?_; conv => whnf
 (refine ⟨_, _, yK n, ?_⟩; conv => whnf)
 exact ae rfl rfl
theorem FY (s : Bs) : NQ.Fn cx 97 [.str s] (.d (.bool (pf s))) [] := by
 refine ao az mixed Tryz.func97 (by kernel_rfl) rfl (Nat.le_of_ble_eq_true rfl) ?_; conv => whnf
 (refine ⟨_, _, pn s, ?_⟩; conv => whnf)
 (refine ab (fun h => ?_) (fun h => ?_) <;> (rw [h]; conv => whnf))
 . cases hl : (cg s).1 with
   | nil => rw [hl] at h; simp at h
   | cons x t =>
    refine ⟨by decide, aM x, rfl, ?_⟩
    conv => whnf
    refine ae rfl ?_
    show AV.d (D.bool _) = AV.d (D.bool _)
    congr 2
    unfold pf; rw [hl]
    simp
 . refine ae rfl ?_
   show AV.d (D.bool _) = AV.d (D.bool _)
   congr 2
   unfold pf
   cases hl : (cg s).1 with
   | nil => rfl
   | cons x t => rw [hl] at h; simp at h
theorem CN (l : List Int) (p : Int -> Bool) (hn : l.length <= 100000) (hf : ∀ s ∈ l, NQ.Fn cx 100 [.int .i64 s] (.d (.bool (p s))) []) :
 NQ.Fn cx 152 [.slice 1 (l.map b5), .fn 100 [] []] (.d (.int .i64 (match l.findIdx? p with | some k => (k : Int) | none => -1))) [] := by
 refine ao az mixed Tryz.func152 (by kernel_rfl) rfl (Nat.le_of_ble_eq_true rfl) ?_; conv => whnf
 refine ⟨Nat, fun k => ⟨[(0, .d (.slice 1 (l.map b5))), (1, .d (.fn 100 [] [])), (6, .d (.slice 1 (l.map b5))), (7, .d (.int .i64 ((l.map b5).length : Int))), (8, .d (.int .i64 k))], []⟩, fun k => k <= l.length /\ ∀ j y, j < k -> l[j]? = some y -> p y = false, fun k => l.length - k,
  ⟨0, ⟨by omega, fun j y h => by omega⟩, ai.keep ⟨⟨rfl, rfl⟩, ⟨rfl, rfl⟩, ⟨rfl, rfl⟩, ⟨rfl, rfl⟩, ⟨rfl, rfl⟩, trivial⟩ trivial⟩, fun k hk => ?_⟩
 obtain ⟨hk, hall⟩ := hk
 conv => whnf
 refine ab (fun h1 => ?_) (fun h1 => ?_) <;> (rw [h1]; conv => whnf)
 . have hlt : k < l.length := by simp at h1; omega
   obtain ⟨s, hs⟩ : ∃ s, l[k]? = some s := ⟨_, List.getElem?_eq_getElem hlt⟩
   refine ⟨Int.natCast_nonneg k, b5 s, ax hs, ?_⟩
   conv => whnf
   (refine ⟨_, _, hf s (List.mem_of_getElem? hs), ?_⟩; conv => whnf)
   refine ab (fun h2 => ?_) (fun h2 => ?_) <;> (rw [h2]; conv => whnf)
   . refine ae rfl ?_
     have : l.findIdx? p = some k := by
      rw [List.findIdx?_eq_some_iff_getElem]
      obtain ⟨g1, g2⟩ := List.getElem?_eq_some_iff.1 hs
      refine ⟨g1, by rw [g2]; exact h2, fun j hj => ?_⟩
      have := hall j (l[j]) hj (List.getElem?_eq_getElem (by omega))
      rw [this]; decide
     rw [this]; rfl
   . refine ⟨k + 1, ⟨hlt, fun j y hj hy => ?_⟩, by (show l.length - (k + 1) < l.length - k; omega), ai.keep ⟨⟨rfl, rfl⟩, ⟨rfl, rfl⟩, ⟨rfl, rfl⟩, ⟨rfl, rfl⟩, ⟨ak (by omega), rfl⟩, trivial⟩ trivial⟩
     rcases Nat.lt_succ_iff_lt_or_eq.1 hj with hj | rfl
     . exact hall j y hj hy
     . rw [hs] at hy; cases hy; exact h2
 . obtain rfl : k = l.length := by simp at h1; omega
   refine ae rfl ?_
   have : l.findIdx? p = none := by
    rw [List.findIdx?_eq_none_iff]
    intro x hx
    obtain ⟨i, hi⟩ := List.getElem?_of_mem hx
    exact hall i x (List.getElem?_eq_some_iff.1 hi).1 hi
   rw [this]; rfl
theorem Gn (h : ja) (a : Int) : NQ.Fn cx 37 [.agg (du h), .ptr [.int .i64 a]] (.d (.bool (h.addr == a))) [] := by
 refine ao az mixed Tryz.func37 (by kernel_rfl) rfl (Nat.le_of_ble_eq_true rfl) ?_; conv => whnf
 exact ae rfl rfl
theorem A9 (l : List ja) (p : ja -> Bool) (x : D) (hn : l.length <= 100000) (hf : ∀ s ∈ l, NQ.Fn cx 37 [.agg (du s), x] (.d (.bool (p s))) []) :
 NQ.Fn cx 36 [.slice 3 (l.map du), .fn 37 [] [x]] (.d (.int .i64 (match l.findIdx? p with | some k => (k : Int) | none => -1))) [] := by
 refine ao az mixed Tryz.func36 (by kernel_rfl) rfl (Nat.le_of_ble_eq_true rfl) ?_; conv => whnf
 refine ⟨Nat, fun k => ⟨[(0, .d (.slice 3 (l.map du))), (1, .d (.fn 37 [] [x])), (7, .d (.int .i64 ((l.map du).length : Int))), (8, .d (.int .i64 k))], []⟩, fun k => k <= l.length /\ ∀ j y, j < k -> l[j]? = some y -> p y = false, fun k => l.length - k,
  ⟨0, ⟨by omega, fun j y h => by omega⟩, ai.keep ⟨⟨rfl, rfl⟩, ⟨rfl, rfl⟩, ⟨rfl, rfl⟩, ⟨rfl, rfl⟩, trivial⟩ trivial⟩, fun k hk => ?_⟩
 obtain ⟨hk, hall⟩ := hk
 conv => whnf
 refine ab (fun h1 => ?_) (fun h1 => ?_) <;> (rw [h1]; conv => whnf)
 . have hlt : k < l.length := by simp at h1; omega
   obtain ⟨s, hs⟩ : ∃ s, l[k]? = some s := ⟨_, List.getElem?_eq_getElem hlt⟩
   refine ⟨Int.natCast_nonneg k, du s, ax hs, ?_⟩
   conv => whnf
   (refine ⟨_, _, hf s (List.mem_of_getElem? hs), ?_⟩; conv => whnf)
   refine ab (fun h2 => ?_) (fun h2 => ?_) <;> (rw [h2]; conv => whnf)
   . refine ae rfl ?_
     have : l.findIdx? p = some k := by
      rw [List.findIdx?_eq_some_iff_getElem]
      obtain ⟨g1, g2⟩ := List.getElem?_eq_some_iff.1 hs
      refine ⟨g1, by rw [g2]; exact h2, fun j hj => ?_⟩
      have := hall j (l[j]) hj (List.getElem?_eq_getElem (by omega))
      rw [this]; decide
     rw [this]; rfl
   . refine ⟨k + 1, ⟨hlt, fun j y hj hy => ?_⟩, by (show l.length - (k + 1) < l.length - k; omega), ai.keep ⟨⟨rfl, rfl⟩, ⟨rfl, rfl⟩, ⟨rfl, rfl⟩, ⟨ak (by omega), rfl⟩, trivial⟩ trivial⟩
     rcases Nat.lt_succ_iff_lt_or_eq.1 hj with hj | rfl
     . exact hall j y hj hy
     . rw [hs] at hy; cases hy; exact h2
 . obtain rfl : k = l.length := by simp at h1; omega
   refine ae rfl ?_
   have : l.findIdx? p = none := by
    rw [List.findIdx?_eq_none_iff]
    intro x hx
    obtain ⟨i, hi⟩ := List.getElem?_of_mem hx
    exact hall i x (List.getElem?_eq_some_iff.1 hi).1 hi
   rw [this]; rfl
theorem yL (l : List Int) (hl : l.length <= 100000) : NQ.Fn cx 99 [.slice 1 (l.map b5), .fn 100 [] []] (.d (.bool (!l.all dq))) [] := by
 refine ao az mixed Tryz.func99 (by kernel_rfl) rfl (Nat.le_of_ble_eq_true rfl) ?_; conv => whnf
 (refine ⟨_, _, CN l (fun n => !dq n) hl (fun s _ => FX s), ?_⟩; conv => whnf)
 refine ae rfl ?_
 show AV.d (D.bool (decide ((match l.findIdx? (fun n => !dq n) with | some k => (k : Int) | none => -1) >= 0))) = _
 congr 2
 cases h : l.findIdx? (fun n => !dq n) with
 | some k =>
  obtain ⟨h1, h2, _⟩ := List.findIdx?_eq_some_iff_getElem.1 h
  rw [decide_eq_true (Int.natCast_nonneg k)]
  have : l.all dq = false := by
   rw [<- Bool.not_eq_true, List.all_eq_true]
   intro hall
   rw [hall _ (List.getElem_mem h1)] at h2; cases h2
  rw [this]; rfl
 | none =>
  have : l.all dq = true := by
   rw [List.all_eq_true]
   intro x hx
   have := List.findIdx?_eq_none_iff.1 h x hx
   simpa using this
  rw [this]; rfl
theorem yG (s : gP) (hints : List Int) (hl : hints.length <= 100000) : NQ.Fn cx 55 [.agg (kB s), .slice 1 (hints.map b5)] (.d (.bool (kP s hints))) [] := by
 refine ao az mixed Tryz.func55 (by kernel_rfl) rfl (Nat.le_of_ble_eq_true rfl) ?_; conv => whnf
 (refine ⟨_, _, nK s, ?_⟩; conv => whnf)
 repeat' (first | (refine ab (fun h => ?_) (fun h => ?_) <;> (rw [h]; conv => whnf)) | fail)
 all_goals first
  | (refine ae rfl ?_; show AV.d (D.bool false) = _; (try simp only [List.length_map] at *); unfold kP; simp_all; done)
  | skip
 all_goals first
  | ((refine ⟨_, _, yL hints hl, ?_⟩; conv => whnf)
     refine ae rfl ?_
     show AV.d (D.bool _) = AV.d (D.bool _)
     congr 2
     (try simp only [List.length_map] at *)
     unfold kP
     simp_all; done)
  | (refine ae rfl ?_; show AV.d (D.bool false) = _; (try simp only [List.length_map] at *); unfold kP; simp_all; omega)
theorem wo (l : List ja) (hl : l.length <= 100000) : NQ.Fn cx 53 [.slice 3 (l.map du)] (.d (.bool (iU l))) [] := by
 refine ao az mixed Tryz.func53 (by kernel_rfl) rfl (Nat.le_of_ble_eq_true rfl) ?_; conv => whnf
 rw [List.length_map]
 refine ab (fun h => ?_) (fun h => ?_) <;> (rw [h]; conv => whnf)
 . refine ae rfl ?_
   show AV.d (D.bool _) = AV.d (D.bool _)
   congr 2
   unfold iU
   simp at h
   simp; omega
 have hle : iU l = gJ [] l := by unfold iU; simp at h; simp; omega
 rw [hle]
 refine ⟨Nat, fun k => ⟨[(10, .d (.slice 3 (l.map du))), (11, .d (.int .i64 ((l.map du).length : Int))), (12, .d (.int .i64 k)), (3, .omap 9)], [(9, .kmap (uk ((l.take k).map (·.addr))))]⟩, fun k => k <= l.length /\ gJ ((l.take k).map (·.addr)) (l.drop k) = gJ [] l, fun k => l.length - k,
  ⟨0, ⟨Nat.zero_le _, rfl⟩, ai.keep ⟨⟨rfl, rfl⟩, ⟨rfl, rfl⟩, ⟨rfl, rfl⟩, ⟨rfl, rfl⟩, trivial⟩ ⟨⟨rfl, rfl⟩, trivial⟩⟩, fun k ⟨hk, hinv⟩ => ?_⟩
 conv => whnf
 refine ab (fun h1 => ?_) (fun h1 => ?_) <;> (rw [h1]; conv => whnf)
 . have hlt : k < l.length := by simpa using h1
   obtain ⟨x, hx⟩ : ∃ x, l[k]? = some x := ⟨_, List.getElem?_eq_getElem hlt⟩
   rw [tA hx] at hinv
   refine ⟨Int.natCast_nonneg k, du x, ax hx, ?_⟩
   conv => whnf
   repeat' (first | (refine ⟨_, _, gW x.name, ?_⟩; conv => whnf) | (refine ⟨_, _, FY x.name, ?_⟩; conv => whnf) | (refine ⟨_, _, yK x.addr, ?_⟩; conv => whnf) | (refine ab (fun h => ?_) (fun h => ?_) <;> (rw [h]; conv => whnf)) | (refine ⟨_, pv x.addr _, ?_⟩; cases hc : ((l.take k).map (·.addr)).contains x.addr <;> (conv => whnf)) | fail)
   all_goals first
    | (refine ae rfl ?_; show AV.d (D.bool false) = AV.d (D.bool _); rw [<- hinv]; simp_all; done)
    | (refine ⟨_, DX hc, ?_⟩
       conv => whnf
       refine ⟨k + 1, ⟨hlt, ?_⟩, by (show l.length - (k + 1) < l.length - k; omega), ai.keep ⟨⟨rfl, rfl⟩, ⟨rfl, rfl⟩, ⟨ak (by omega), rfl⟩, ⟨rfl, rfl⟩, trivial⟩ ⟨⟨?_, rfl⟩, trivial⟩⟩
       . rw [bF hx, List.map_append]; rw [<- hinv]; simp_all
       . rw [bF hx, List.map_append]; rfl)
 . obtain rfl : k = l.length := by simp at h1; omega
   refine ae rfl ?_
   rw [<- hinv, List.drop_length]; rfl
end Go.Proofs.YtnbnldnfkikakaaGreatDoor

set_option maxRecDepth 100000
namespace NP
open NQ Go
def pmap (l : List af) : List (List D × D) := l.map fun p => ([.int .i64 p.host, .str p.zone.apex], .bool true)
def cr (p x : af) : Bool := (p.host == x.host) && (p.zone.apex == x.zone.apex)
theorem ql (p : af) : ∀ l : List af, jR [.int .i64, .str] [.int .i64 p.host, .str p.zone.apex] (pmap l) = some (if l.any (cr p) = true then some (.bool true) else none)
 | [] => rfl
 | x :: l => by
  show (match bS [.int .i64, .str] [.d (.int .i64 p.host), .d (.str p.zone.apex)] [.d (.int .i64 x.host), .d (.str x.zone.apex)] with | some true => _ | some false => jR _ _ (pmap l) | none => none) = _
  have : bS [.int .i64, .str] [.d (.int .i64 p.host), .d (.str p.zone.apex)] [.d (.int .i64 x.host), .d (.str x.zone.apex)] = some (cr p x) := by
   show some ((p.host == x.host) && ((p.zone.apex == x.zone.apex) && true)) = _
   rw [Bool.and_true]; rfl
  rw [this, List.any_cons]
  cases h : cr p x with
  | true => simp
  | false => simp only [Bool.false_or]; exact ql p l
theorem Fs {p : af} {l : List af} (h : l.any (cr p) = false) : qO [.int .i64, .str] [.int .i64 p.host, .str p.zone.apex] (.bool true) (pmap l) = some (pmap (l ++ [p])) := by
 rw [tD (by rw [ql, h]; rfl)]
 simp [pmap]
def apx (l : List af) : List (Bs × D) := l.foldl (fun m p => cN p.zone.apex (.bool true) m) []
theorem D1 (l : List af) (p : af) : apx (l ++ [p]) = cN p.zone.apex (.bool true) (apx l) := by unfold apx; rw [List.foldl_append]; rfl
def cP (n : Nat) : List af -> List af -> Bool
 | _, [] => true
 | seen, p :: t => !(decide (p.host < 0) || decide (p.host >= (n : Int)) || seen.any (cr p) || !aO p.zone) && cP n (seen ++ [p]) t
def ix (w : bg) : Bool := decide ((w.zones.length : Int) <= 4000) && cP w.hosts.length [] w.zones && decide (((apx w.zones).length : Int) <= 500)
theorem rq {n : Nat} {l : List af} {k : Nat} {p : af} (hp : l[k]? = some p) (seen : List af) : cP n seen (l.drop k) = (!(decide (p.host < 0) || decide (p.host >= (n : Int)) || seen.any (cr p) || !aO p.zone) && cP n (seen ++ [p]) (l.drop (k + 1))) := by
 rw [drop_cons hp]; rfl
def bt (w : bg) : Bool := iU w.hosts && ix w && kP w.anchor w.hints
end NP
namespace Go.Proofs.YtnbnldnfkikakaaGreatDoor
open NQ Go NP Go.RowKit
theorem uW (w : bg) (hl : w.zones.length <= 100000) : NQ.Fn cx 54 [.agg (bz w)] (.d (.bool (ix w))) [] := by
 refine ao az mixed Tryz.func54 (by kernel_rfl) rfl (Nat.le_of_ble_eq_true rfl) ?_; conv => whnf
 rw [List.length_map]
 refine ab (fun h => ?_) (fun h => ?_) <;> (rw [h]; conv => whnf)
 . refine ae rfl ?_
   show AV.d (D.bool _) = AV.d (D.bool _)
   congr 2
   unfold ix
   simp at h
   simp; omega
 have hle : ix w = (cP w.hosts.length [] w.zones && decide (((apx w.zones).length : Int) <= 500)) := by
  have : decide ((w.zones.length : Int) <= 4000) = true := by simp at h ⊢; omega
  unfold ix; rw [this, Bool.true_and]
 rw [hle]
 refine ⟨Nat, fun k => ⟨[(1, .ptr 1 0), (15, .d (.slice 3 (w.zones.map aQ))), (16, .d (.int .i64 ((w.zones.map aQ).length : Int))), (17, .d (.int .i64 k)), (3, .omap 12), (4, .omap 13)], [(1, .box ((bz w).map .d)), (12, .kmap (pmap (w.zones.take k))), (13, .smap (apx (w.zones.take k)))]⟩, fun k => k <= w.zones.length /\ cP w.hosts.length (w.zones.take k) (w.zones.drop k) = cP w.hosts.length [] w.zones, fun k => w.zones.length - k,
  ⟨0, ⟨Nat.zero_le _, rfl⟩, ai.keep ⟨⟨rfl, rfl⟩, ⟨rfl, rfl⟩, ⟨rfl, rfl⟩, ⟨rfl, rfl⟩, ⟨rfl, rfl⟩, ⟨rfl, rfl⟩, trivial⟩ ⟨⟨rfl, rfl⟩, ⟨rfl, rfl⟩, ⟨rfl, rfl⟩, trivial⟩⟩, fun k ⟨hk, hinv⟩ => ?_⟩
 conv => whnf
 refine ab (fun h1 => ?_) (fun h1 => ?_) <;> (rw [h1]; conv => whnf)
 . have hlt : k < w.zones.length := by simpa using h1
   obtain ⟨x, hx⟩ : ∃ x, w.zones[k]? = some x := ⟨_, List.getElem?_eq_getElem hlt⟩
   rw [rq hx] at hinv
   refine ⟨Int.natCast_nonneg k, aQ x, ax hx, ?_⟩
   conv => whnf
   repeat' (first | (refine ⟨_, _, lv x.zone, ?_⟩; conv => whnf) | (refine ab (fun h => ?_) (fun h => ?_) <;> (rw [h]; conv => whnf)) | (refine ⟨_, ql x _, ?_⟩; cases hc : (w.zones.take k).any (cr x) <;> (conv => whnf)) | fail)
   all_goals first
    | (refine ae rfl ?_; show AV.d (D.bool false) = AV.d (D.bool _); rw [<- hinv]; clear hinv hle; (try simp only [List.length_map] at *); simp only [*, if_true, if_false, Bool.false_eq_true, Bool.not_true, Bool.not_false, Bool.not_not, Bool.true_or, Bool.or_true, Bool.false_or, Bool.or_false, Bool.and_true, Bool.true_and, Bool.false_and, Bool.and_false]; done)
    | (refine ⟨_, Fs hc, ?_⟩
       conv => whnf
       refine ⟨k + 1, ⟨hlt, ?_⟩, by (show w.zones.length - (k + 1) < w.zones.length - k; omega), ai.keep ⟨⟨rfl, rfl⟩, ⟨rfl, rfl⟩, ⟨rfl, rfl⟩, ⟨ak (by omega), rfl⟩, ⟨rfl, rfl⟩, ⟨rfl, rfl⟩, trivial⟩ ⟨⟨rfl, rfl⟩, ⟨?_, rfl⟩, ⟨?_, rfl⟩, trivial⟩⟩
       . rw [bF hx]; rw [<- hinv]; clear hinv hle; (try simp only [List.length_map] at *); simp only [*, if_true, if_false, Bool.false_eq_true, Bool.not_true, Bool.not_false, Bool.not_not, Bool.true_or, Bool.or_true, Bool.false_or, Bool.or_false, Bool.and_true, Bool.true_and, Bool.false_and, Bool.and_false]
       . rw [bF hx]; rfl
       . rw [bF hx, D1]; rfl)
 . obtain rfl : k = w.zones.length := by simp at h1; omega
   refine ae rfl ?_
   rw [<- hinv, List.drop_length, List.take_length]; rfl
theorem lu (w : bg) (h1 : w.hosts.length <= 100000) (h2 : w.zones.length <= 100000) (h3 : w.hints.length <= 100000) : NQ.Fn cx 19 [.agg (bz w)] (.d (.bool (bt w))) [] := by
 refine ao az mixed Tryz.func19 (by kernel_rfl) rfl (Nat.le_of_ble_eq_true rfl) ?_; conv => whnf
 (refine ⟨_, _, wo w.hosts h1, ?_⟩; conv => whnf)
 refine ab (fun h => ?_) (fun h => ?_) <;> (rw [h]; conv => whnf)
 . (refine ⟨_, _, uW w h2, ?_⟩; conv => whnf)
   refine ab (fun h' => ?_) (fun h' => ?_) <;> (rw [h']; conv => whnf)
   . (refine ⟨_, _, yG w.anchor w.hints h3, ?_⟩; conv => whnf)
     refine ae rfl ?_
     unfold bt; rw [h, h']; rfl
   . refine ae rfl ?_
     unfold bt; rw [h, h']; rfl
 . refine ae rfl ?_
   unfold bt; rw [h]; rfl
end Go.Proofs.YtnbnldnfkikakaaGreatDoor

set_option maxRecDepth 100000
namespace NP
open NQ Go
def dy (a : Bs) : List (Bs × Nat) -> Option Nat
 | [] => none
 | (b, i) :: t => if a = b then some i else dy a t
def kE (a : Bs) (i : Nat) : List (Bs × Nat) -> List (Bs × Nat)
 | [] => [(a, i)]
 | (b, j) :: t => if a = b then (b, i) :: t else (b, j) :: kE a i t
def mo (m : List (Bs × Nat)) : List (Bs × D) := m.map fun p => (p.1, .int .i64 (p.2 : Int))
theorem xI (a : Bs) : ∀ m, cJ a (mo m) = (dy a m).map fun i => D.int .i64 (i : Int)
 | [] => rfl
 | (b, i) :: t => by
  show (if a = b then _ else cJ a (mo t)) = _
  unfold dy
  split
  . rfl
  . exact xI a t
theorem uC (a : Bs) (i : Nat) : ∀ m, cN a (.int .i64 (i : Int)) (mo m) = mo (kE a i m)
 | [] => rfl
 | (b, j) :: t => by
  show (if a = b then _ else _ :: cN a _ (mo t)) = _
  unfold kE
  split
  . rfl
  . rw [uC a i t]; rfl
theorem zW (a : Bs) : ∀ m, jV (.str a) ((mo m).map yq) = some ((dy a m).map fun i => D.int .i64 (i : Int))
 | [] => rfl
 | (b, i) :: t => by
  show (match eZ (.str a) [.tuple [.str b]] with | some true => _ | some false => jV (.str a) ((mo t).map yq) | none => none) = _
  have : eZ (.str a) [.tuple [.str b]] = some (a == b) := rfl
  rw [this]
  unfold dy
  by_cases h : a = b
  . subst h; simp
  . have : (a == b) = false := by simp [h]
    rw [this, if_neg h]; exact zW a t
theorem ll (a b : Bs) (i : Nat) : ∀ m, dy b (kE a i m) = if a = b then some i else dy b m
 | [] => by
  simp only [kE, dy]
  by_cases h : a = b
  . rw [if_pos h.symm, if_pos h]
  . rw [if_neg (Ne.symm h), if_neg h]
 | (c, j) :: t => by
  unfold kE
  by_cases hc : a = c
  . rw [if_pos hc]
    subst hc
    unfold dy
    by_cases h : b = a
    . rw [if_pos h, if_pos h.symm]
    . rw [if_neg h, if_neg h, if_neg (Ne.symm h)]
  . rw [if_neg hc]
    unfold dy
    by_cases h : b = c
    . rw [if_pos h, if_pos h, if_neg (fun e => hc (e.trans h))]
    . rw [if_neg h, if_neg h]; exact ll a b i t
def eB (p q : af) : Bool := decide ((ee p.zone).1 > (ee q.zone).1) || (decide ((ee p.zone).1 = (ee q.zone).1) && decide (p.host < q.host))
def fg (zs : List af) (m : List (Bs × Nat)) (p : af) : Bool := match dy p.zone.apex m with
 | none => true
 | some j => (match zs[j]? with | some q => eB p q | none => false)
def iY (zs : List af) : Nat -> List af -> List (Bs × Nat) -> List (Bs × Nat)
 | _, [], m => m
 | i, p :: t, m => iY zs (i + 1) t (if fg zs m p = true then kE p.zone.apex i m else m)
def eE (zs : List af) : List (Bs × Nat) := iY zs 0 zs []
theorem DE {zs l : List af} {k : Nat} {p : af} (hp : l[k]? = some p) (m : List (Bs × Nat)) : iY zs k (l.drop k) m = iY zs (k + 1) (l.drop (k + 1)) (if fg zs m p = true then kE p.zone.apex k m else m) := by
 rw [drop_cons hp]; rfl
def fy (zs : List af) (m : List (Bs × Nat)) : Prop := ∀ a j, dy a m = some j -> ∃ p, zs[j]? = some p /\ p.zone.apex = a
theorem fy.put {zs : List af} {m : List (Bs × Nat)} (h : fy zs m) {i : Nat} {p : af} (hp : zs[i]? = some p) : fy zs (kE p.zone.apex i m) := by
 intro a j hj
 rw [ll] at hj
 split at hj
 . cases hj; exact ⟨p, hp, by assumption⟩
 . exact h a j hj
theorem fy.go {zs : List af} : ∀ (l : List af) (i : Nat) (m : List (Bs × Nat)), (∀ j, l[j]? = zs[i + j]?) -> fy zs m -> fy zs (iY zs i l m)
 | [], i, m, _, h => h
 | p :: t, i, m, hl, h => by
  unfold iY
  refine fy.go t (i + 1) _ (fun j => by have := hl (j + 1); simp at this; rw [this]; congr 1; omega) ?_
  split
  . exact h.put (by have := hl 0; simpa using this.symm)
  . exact h
theorem qx (zs : List af) : fy zs (eE zs) := fy.go zs 0 [] (fun j => by rw [Nat.zero_add]) (fun a j h => by cases h)
def wF (w : bg) (m : List (Bs × Nat)) : List D := bz w ++ [.kmap ((mo m).map yq)]
def iK (zs : List af) (m : List (Bs × Nat)) (q : ay) : Nat -> Bs -> Ans × Bool
 | 0, _ => (fj, false)
 | f + 1, a => match dy a m with
  | none => (fj, false)
  | some i => (match zs[i]? with
   | some p => if ((bn p.zone q).1.kind != 4) = true then ((bn p.zone q).1, true) else iK zs m q f (bn p.zone q).1.cut
   | none => (fj, false))
def oi (zs : List af) : Prop := ∀ p ∈ zs, ep p.zone = true /\ aO p.zone = true
theorem qm {z : aq} {q : ay} (u : Use z q) (hk : ((bn z q).1.kind != 4) = false) : ar q.name (bn z q).1.cut = true /\ (back z.apex).length < (back (bn z q).1.cut).length /\ ah (bn z q).1.cut = true /\ (bn z q).1.cut ∈ bq z.apex z.sets := by
 cases hr : cH (vw z q) with
 | false =>
  have := (u.G7 hr).1
  simp only [bne, this] at hk; cases hk
 | true =>
  obtain ⟨s0, R, h1, h2, h3, _⟩ := u.I0 hr
  rw [h3]
  have hne : bw z q.name ≠ [] := by intro e; rw [sR, e] at hr; cases hr
  have hcut : bw z q.name ∈ bq z.apex z.sets /\ ar q.name (bw z q.name) = true := by
   unfold bw at hne ⊢
   cases hf : (bq z.apex z.sets).find? fun c => ar q.name c with
   | none => rw [hf] at hne; exact absurd rfl hne
   | some c => exact ⟨List.mem_of_find?_eq_some hf, by have := List.find?_some hf; simpa using this⟩
  obtain ⟨hc, hu⟩ := hcut
  have ho := u.ord
  obtain ⟨s, hs, hi, he⟩ := (fO z.apex _ z.sets).1 hc
  have hua := ho.under s hs
  have hsv := ho.name s hs
  unfold aD at hua
  rw [if_pos ⟨hsv, ho.apex⟩, he] at hua
  refine ⟨hu, ?_, he ▸ hsv, hc⟩
  have hpre := (cw _ _).1 hua
  have hle := hpre.length_le
  rcases Nat.lt_or_ge (back z.apex).length (back (bw z q.name)).length with h | h
  . exact h
  . have e : back z.apex = back (bw z q.name) := hpre.eq_of_length (by omega)
    have : bw z q.name = z.apex := o9 hua ((cw _ _).2 (by rw [e]; exact List.prefix_rfl))
    unfold cd at hi
    rw [he, this] at hi
    simp at hi
end NP
namespace Go.Proofs.YtnbnldnfkikakaaGreatDoor
open NQ Go NP Go.RowKit
theorem Bm (w : bg) (hl : w.zones.length <= 100000) : NQ.Fn cx 47 [.agg (bz w)] (.agg ((wF w (eE w.zones)).map .d)) [] := by
 refine de (fun | 9 => [9] | _ => []) az mixed Tryz.func47 (by kernel_rfl) rfl (Nat.le_of_ble_eq_true rfl) ?_
 conv => whnf
 refine ⟨Nat × List (Bs × Nat), fun x => ⟨[(2, .ptr 2 0), (3, .ptr 3 0), (13, .d (.slice 3 (w.zones.map aQ))), (14, .d (.int .i64 ((w.zones.map aQ).length : Int))), (15, .d (.int .i64 x.1))],
     [(2, .box [.nil 3, .nil 3, .d (.str []), .d (.int .i64 0), .d (.int .i64 0), .nil 3, .nil 1, .undef]), (3, .box ((bz w).map .d ++ [.omap 9])), (9, .smap (mo x.2))]⟩,
  fun x => x.1 <= w.zones.length /\ fy w.zones x.2 /\ iY w.zones x.1 (w.zones.drop x.1) x.2 = eE w.zones, fun x => w.zones.length - x.1,
  ⟨(0, []), ⟨Nat.zero_le _, (fun a j h => by cases h), rfl⟩, ai.keep ⟨⟨rfl, rfl⟩, ⟨rfl, rfl⟩, ⟨rfl, rfl⟩, ⟨rfl, rfl⟩, ⟨rfl, rfl⟩, trivial⟩ ⟨⟨rfl, rfl⟩, ⟨rfl, rfl⟩, ⟨rfl, rfl⟩, trivial⟩⟩, fun ⟨k, m⟩ ⟨hk, hok, hinv⟩ => ?_⟩
 dsimp only at hk hok hinv ⊢
 conv => whnf
 refine ab (fun h1 => ?_) (fun h1 => ?_) <;> (rw [h1]; conv => whnf)
 . have hlt : k < w.zones.length := by simpa using h1
   obtain ⟨x, hx⟩ : ∃ x, w.zones[k]? = some x := ⟨_, List.getElem?_eq_getElem hlt⟩
   rw [DE hx] at hinv
   refine ⟨Int.natCast_nonneg k, aQ x, ax hx, ?_⟩
   conv => whnf
   rw [xI]
   have again : ∀ m', (m' = if fg w.zones m x = true then kE x.zone.apex k m else m) -> (k + 1 <= w.zones.length /\ fy w.zones m' /\ iY w.zones (k + 1) (w.zones.drop (k + 1)) m' = eE w.zones) := fun m' e => by
    refine ⟨hlt, ?_, by rw [e]; exact hinv⟩
    rw [e]
    split
    . exact hok.put hx
    . exact hok
   cases hf : dy x.zone.apex m with
   | none =>
    conv => whnf
    (refine ⟨(by kernel_rfl : aH _ _ = true), ?_⟩; conv => whnf)
    have ht : fg w.zones m x = true := by unfold fg; rw [hf]
    refine ⟨(k + 1, kE x.zone.apex k m), again _ (by rw [if_pos ht]), by (show w.zones.length - (k + 1) < w.zones.length - k; omega), ai.keep ⟨⟨rfl, rfl⟩, ⟨rfl, rfl⟩, ⟨rfl, rfl⟩, ⟨rfl, rfl⟩, ⟨ak (by omega), rfl⟩, trivial⟩ ⟨⟨rfl, rfl⟩, ⟨rfl, rfl⟩, ⟨?_, rfl⟩, trivial⟩⟩
    show some (Blk.smap (cN x.zone.apex (.int .i64 (k : Int)) (mo m))) = _
    rw [uC]
   | some j =>
    conv => whnf
    (refine ⟨(by kernel_rfl : aH _ _ = true), ?_⟩; conv => whnf)
    obtain ⟨p, hp, hpa⟩ := hok _ j hf
    refine ⟨Int.natCast_nonneg j, aQ p, ax hp, ?_⟩
    conv => whnf
    (refine ⟨_, _, Fh x p, ?_⟩; conv => whnf)
    have ht : fg w.zones m x = eB x p := by unfold fg; rw [hf]; dsimp only; rw [hp]
    refine ab (fun h2 => ?_) (fun h2 => ?_) <;> (rw [h2]; conv => whnf)
    . have ht : fg w.zones m x = true := ht.trans h2
      refine ⟨(k + 1, kE x.zone.apex k m), again _ (by rw [if_pos ht]), by (show w.zones.length - (k + 1) < w.zones.length - k; omega), ai.keep ⟨⟨rfl, rfl⟩, ⟨rfl, rfl⟩, ⟨rfl, rfl⟩, ⟨rfl, rfl⟩, ⟨ak (by omega), rfl⟩, trivial⟩ ⟨⟨rfl, rfl⟩, ⟨rfl, rfl⟩, ⟨?_, rfl⟩, trivial⟩⟩
      show some (Blk.smap (cN x.zone.apex (.int .i64 (k : Int)) (mo m))) = _
      rw [uC]
    . have ht : fg w.zones m x = false := ht.trans h2
      exact ⟨(k + 1, m), again _ (by rw [if_neg (by rw [ht]; simp)]), by (show w.zones.length - (k + 1) < w.zones.length - k; omega), ai.keep ⟨⟨rfl, rfl⟩, ⟨rfl, rfl⟩, ⟨rfl, rfl⟩, ⟨rfl, rfl⟩, ⟨ak (by omega), rfl⟩, trivial⟩ ⟨⟨rfl, rfl⟩, ⟨rfl, rfl⟩, ⟨rfl, rfl⟩, trivial⟩⟩
 . obtain rfl : k = w.zones.length := by simp at h1; omega
   rw [List.drop_length] at hinv
   obtain rfl : m = eE w.zones := hinv
   exact ae rfl rfl
end Go.Proofs.YtnbnldnfkikakaaGreatDoor

set_option maxRecDepth 100000
namespace NP
open NQ Go
theorem vO (a : Bs) : ar a [46] = true := by
 rw [cw]
 show ([] : List Bs) <+: _
 exact List.nil_prefix
def cD (zs : List af) (q : ay) : Ans × Bool := iK zs (eE zs) q ((back q.name).length + 2) [46]
theorem BB {q : ay} (h : bc q = true) : ah q.name = true := by
 unfold bc at h; simp only [Bool.and_eq_true] at h; exact h.1.1
theorem yB {zs : List af} {q : ay} (hg : oi zs) (hq : bc q = true) {m : List (Bs × Nat)} (hm : fy zs m) {a : Bs} (hu : ar q.name a = true) {f : Nat} (hf : (back q.name).length + 1 <= f + (back a).length) {i : Nat} {p : af} (hi : dy a m = some i) (hp : zs[i]? = some p)
 (hk : ((bn p.zone q).1.kind != 4) = false) : Use p.zone q /\ ar q.name (bn p.zone q).1.cut = true /\ (back a).length < (back (bn p.zone q).1.cut).length /\ 1 <= f := by
 obtain ⟨p', hp', ha⟩ := hm a i hi
 rw [hp] at hp'; cases hp'
 obtain ⟨g1, g2⟩ := hg p (List.mem_of_getElem? hp)
 have u : Use p.zone q := ⟨g1, g2, hq, by rw [ha]; exact hu⟩
 obtain ⟨r1, r2, _⟩ := qm u hk
 rw [ha] at r2
 refine ⟨u, r1, r2, ?_⟩
 have := ((cw _ _).1 r1).length_le
 omega
end NP
namespace Go.Proofs.YtnbnldnfkikakaaGreatDoor
open NQ Go NP Go.RowKit
theorem wk (w : bg) (q : ay) (hg : oi w.zones) (hq : bc q = true) : NQ.Fn cx 48 [.agg (wF w (eE w.zones)), .agg (bE q)] (.tuple [.agg ((eh (cD w.zones q).1).map .d), .d (.bool (cD w.zones q).2)]) [] := by
 refine de (fun _ => []) az mixed Tryz.func48 (by kernel_rfl) rfl (Nat.le_of_ble_eq_true rfl) ?_
 conv => whnf
 refine ⟨Nat × Bs, fun x => ⟨[(2, .ptr 2 0), (3, .ptr 3 0), (4, .ptr 4 0), (6, .d (.str x.2))], [(2, .box ((wF w (eE w.zones)).map .d)), (3, .box ((bE q).map .d)), (4, .box [.d (.int .i64 0), .nil 5, .d (.str [])])]⟩,
  fun x => ar q.name x.2 = true /\ (back q.name).length + 1 <= x.1 + (back x.2).length /\ iK w.zones (eE w.zones) q (x.1 + 1) x.2 = cD w.zones q, fun x => x.1,
  ⟨((back q.name).length + 1, [46]), ⟨vO q.name, by omega, rfl⟩, ai.keep ⟨⟨rfl, rfl⟩, ⟨rfl, rfl⟩, ⟨rfl, rfl⟩, ⟨rfl, rfl⟩, trivial⟩ ⟨⟨rfl, rfl⟩, ⟨rfl, rfl⟩, ⟨rfl, rfl⟩, trivial⟩⟩, fun ⟨f, a⟩ ⟨hu, hf, hinv⟩ => ?_⟩
 dsimp only at hu hf hinv ⊢
 conv => whnf
 refine ⟨_, zW a (eE w.zones), ?_⟩
 unfold iK at hinv
 cases hfi : dy a (eE w.zones) with
 | none =>
  rw [hfi] at hinv
  conv => whnf
  refine ae rfl ?_
  rw [<- hinv]; rfl
 | some i =>
  rw [hfi] at hinv
  conv => whnf
  try (refine ⟨(by kernel_rfl : aH _ _ = true), ?_⟩; conv => whnf)
  obtain ⟨p, hp, hpa⟩ := qx w.zones a i hfi
  have hg' := hg p (List.mem_of_getElem? hp)
  refine ⟨Int.natCast_nonneg i, aQ p, ax hp, ?_⟩
  conv => whnf
  (refine ⟨_, _, Cf p.zone q hg'.1, ?_⟩; conv => whnf)
  dsimp only at hinv
  rw [hp] at hinv
  dsimp only at hinv
  refine ab (fun h2 => ?_) (fun h2 => ?_) <;> (rw [h2]; conv => whnf)
  . have h2' : ((bn p.zone q).1.kind != 4) = true := h2
    rw [if_pos h2'] at hinv
    refine ae rfl ?_
    rw [<- hinv]; rfl
  . have h2' : ((bn p.zone q).1.kind != 4) = false := h2
    rw [if_neg (by rw [h2']; simp)] at hinv
    obtain ⟨u, r1, r2, r3⟩ := yB hg hq (qx w.zones) hu hf hfi hp h2'
    obtain ⟨f, rfl⟩ : ∃ g, f = g + 1 := ⟨f - 1, by omega⟩
    exact ⟨(f, (bn p.zone q).1.cut), ⟨r1, by dsimp only; omega, hinv⟩, by (show f < f + 1; omega), ai.keep ⟨⟨rfl, rfl⟩, ⟨rfl, rfl⟩, ⟨rfl, rfl⟩, ⟨rfl, rfl⟩, trivial⟩ ⟨⟨rfl, rfl⟩, ⟨rfl, rfl⟩, ⟨rfl, rfl⟩, trivial⟩⟩
end Go.Proofs.YtnbnldnfkikakaaGreatDoor
namespace NP
open NQ Go
theorem qw {zs : List af} {q : ay} (hg : oi zs) (hq : bc q = true) {m : List (Bs × Nat)} (hm : fy zs m) : ∀ (f : Nat) (a : Bs), ar q.name a = true -> ∀ x, iK zs m q f a = (x, true) -> ∃ p ∈ zs, Use p.zone q /\ x = (bn p.zone q).1 /\ (x.kind != 4) = true
 | 0, a, hu, x, h => by cases h
 | f + 1, a, hu, x, h => by
  unfold iK at h
  cases hi : dy a m with
  | none => rw [hi] at h; cases h
  | some i =>
   rw [hi] at h
   obtain ⟨p, hp, ha⟩ := hm a i hi
   dsimp only at h
   rw [hp] at h
   dsimp only at h
   have hmem := List.mem_of_getElem? hp
   obtain ⟨g1, g2⟩ := hg p hmem
   have u : Use p.zone q := ⟨g1, g2, hq, by rw [ha]; exact hu⟩
   cases hk : ((bn p.zone q).1.kind != 4) with
   | true => rw [hk, if_pos rfl] at h; cases h; exact ⟨p, hmem, u, rfl, hk⟩
   | false =>
    rw [hk, if_neg (by simp)] at h
    exact qw hg hq hm f _ (qm u hk).1 x h
theorem qo {zs : List af} {q : ay} (hg : oi zs) (hq : bc q = true) {x : Ans} (h : cD zs q = (x, true)) : ∃ p ∈ zs, Use p.zone q /\ x = (bn p.zone q).1 /\ (x.kind != 4) = true :=
 qw hg hq (qx zs) _ _ (vO q.name) x h
theorem Cc {s : gP} (h : cv s = true) (ht : s.type = 3) : ∃ d, s.data = [d] /\ ah d.text = true := by
 unfold cv at h
 simp only [Bool.and_eq_true, Bool.not_eq_true', Bool.or_eq_false_iff, Bool.not_eq_false'] at h
 obtain ⟨⟨⟨⟨_, _⟩, hw⟩, hs, _⟩, hall⟩ := h
 rw [ht] at hs hall
 have h1 : s.data.length = 1 := by
  have : (dB 3).single = true := rfl
  rw [this, Bool.true_and] at hs
  have : (s.data.length : Int) = 1 := by simpa using hs
  omega
 obtain ⟨d, hd⟩ : ∃ d, s.data = [d] := List.length_eq_one_iff.1 h1
 refine ⟨d, hd, ?_⟩
 rw [hd] at hall
 have := List.all_eq_true.1 hall 0 (by simp)
 rw [xj (d := d) (p := d) rfl rfl] at this
 unfold mc at this
 simp only [Bool.not_eq_true', Bool.or_eq_false_iff, Bool.not_eq_false'] at this
 have hv := this.1
 unfold dV at hv
 simp only [Bool.and_eq_true] at hv
 have ht := hv.2
 have e : (dB 3).text = 1 := rfl
 rw [e] at ht
 simp only [jG, if_true, Bool.and_eq_true] at ht
 exact ht.1
theorem Use.Ca {z : aq} {q : ay} (u : Use z q) (hk : (bn z q).1.kind = 3) : ∃ s R d, (bn z q).1.sets = s :: R /\ s ∈ z.sets /\ s.set.type = 3 /\ s.set.data = [d] /\ ah d.text = true := by
 have key : ∀ (q' : ay) (rest : List Int), q'.type = 3 -> (decide (atI z.sets q' >= 0)) = true -> (bn z q).1.sets = bC z.sets [] (atI z.sets q' :: rest) -> ∃ s R d, (bn z q).1.sets = s :: R /\ s ∈ z.sets /\ s.set.type = 3 /\ s.set.data = [d] /\ ah d.text = true := fun q' rest ht hat hs => by
  have hh : bo z.sets q' = true := by
   have := kj z.sets q'
   cases hc : bo z.sets q' with
   | true => rfl
   | false => rw [hc] at this; simp at this hat; omega
  obtain ⟨k, s, h1, h2, h3⟩ := qH hh
  have hm := List.mem_of_getElem? h2
  have ht3 : s.set.type = 3 := by have := congrArg Prod.snd h3; exact (show s.set.type = q'.type from this).trans ht
  obtain ⟨d, hd, hv⟩ := Cc (u.ord.set s hm) ht3
  refine ⟨s, bC z.sets ([] ++ [atI z.sets q']) rest, d, ?_, hm, ht3, hd, hv⟩
  rw [hs, bC, if_neg (by rw [h1]; simp), h1]
  simp [h2]
 rw [u.ans] at hk key ⊢
 dsimp only at hk key ⊢
 unfold cO at hk key ⊢
 split at hk
 . exfalso; rename_i hr; unfold ik at hk; rw [if_pos hr] at hk; simp at hk
 rename_i hr
 rw [if_neg hr] at key ⊢
 split at hk
 . simp [tr] at hk
 rename_i hd
 rw [if_neg hd] at key ⊢
 split at hk
 . rename_i ha
   rw [if_pos ha] at key ⊢
   have : decide (atI z.sets ⟨q.name, 3⟩ >= 0) = true := by unfold kV at ha; simp only [Bool.and_eq_true] at ha; exact ha.1
   exact key ⟨q.name, 3⟩ [] rfl this rfl
 rename_i ha
 rw [if_neg ha] at key ⊢
 split at hk
 . exfalso; rename_i hx; unfold jz at hk; rw [if_pos hx] at hk; simp at hk
 rename_i hx
 rw [if_neg hx] at key ⊢
 split at hk
 . simp [pc] at hk
 rename_i hw
 rw [if_neg hw] at key ⊢
 split at hk
 . rename_i hwa
   rw [if_pos hwa] at key ⊢
   have hs : (aG (vw z q)).sets = z.sets := kO _
   have : decide (atI z.sets ⟨(aG (vw z q)).bH, 3⟩ >= 0) = true := by unfold gy at hwa; simp only [Bool.and_eq_true] at hwa; rw [hs] at hwa; exact hwa.1
   refine key ⟨(aG (vw z q)).bH, 3⟩ [fk (aG (vw z q)).sets (aG (vw z q)).q.name] rfl this ?_
   unfold j4
   rw [hs]
 rename_i hwa
 split at hk
 . exfalso; unfold jH at hk; (try split at hk) <;> simp at hk
 . exfalso; unfold l6 at hk; (try split at hk) <;> simp at hk
def iL (zs : List af) : Nat -> ay -> List Signed -> Ans × Int
 | 0, _, _ => (fj, 33)
 | f + 1, q, kept => if (!(cD zs q).2) = true then (fj, 34) else if ((cD zs q).1.kind != 3) = true then (⟨(cD zs q).1.kind, kept ++ (cD zs q).1.sets, (cD zs q).1.cut⟩, 0)
  else match (cD zs q).1.sets.head? with
   | some s => (match s.set.data.head? with | some d => iL zs f ⟨d.text, q.type⟩ (kept ++ [s]) | none => (fj, 0))
   | none => (fj, 0)
def ir (w : bg) (q : ay) : Ans × Int := if (bt w && bc q) = false then (fj, 1) else iL w.zones 9 q []
end NP

set_option maxRecDepth 100000
namespace NP
open NQ Go
theorem pG {n : Nat} : ∀ (l seen : List af), cP n seen l = true -> ∀ p ∈ l, aO p.zone = true /\ 0 <= p.host /\ p.host < (n : Int)
 | [], _, _, p, hp => by cases hp
 | x :: t, seen, h, p, hp => by
  unfold cP at h
  simp only [Bool.and_eq_true, Bool.not_eq_true', Bool.or_eq_false_iff, Bool.not_eq_false', decide_eq_false_iff_not] at h
  rcases List.mem_cons.1 hp with rfl | hp
  . exact ⟨h.1.2, by omega, by omega⟩
  . exact pG t _ h.2 p hp
theorem mM {w : bg} (h : bt w = true) : ∀ p ∈ w.zones, aO p.zone = true /\ 0 <= p.host /\ p.host < (w.hosts.length : Int) := by
 unfold bt ix at h
 simp only [Bool.and_eq_true] at h
 exact pG _ _ h.1.2.1.2
structure l7 (w : bg) : Prop where
 hosts : w.hosts.length <= 1000
 zones : w.zones.length <= 1000
 hints : w.hints.length <= 1000
 few : ∀ p ∈ w.zones, ep p.zone = true
end NP
namespace Go.Proofs.YtnbnldnfkikakaaGreatDoor
open NQ Go NP Go.RowKit
set_option maxHeartbeats 1000000 in
theorem yC (w : bg) (q0 : ay) (hF : l7 w) : NQ.Fn cx 14 [.agg (bz w), .agg (bE q0)] (.tuple [.agg ((eh (ir w q0).1).map .d), .d (.int .i64 (ir w q0).2)]) [] := by
 refine de (fun _ => []) az mixed Tryz.func14 (by kernel_rfl) rfl (Nat.le_of_ble_eq_true rfl) ?_
 conv => whnf
 (refine ⟨_, _, lu w (by have := hF.hosts; omega) (by have := hF.zones; omega) (by have := hF.hints; omega), ?_⟩; conv => whnf)
 have bad : ∀ (b : Bool), (bt w && bc q0) = false -> ir w q0 = (fj, 1) := fun _ h => by unfold ir; rw [if_pos h]
 repeat' (first | (refine ⟨_, _, vR q0, ?_⟩; conv => whnf) | (refine ab (fun h => ?_) (fun h => ?_) <;> (rw [h]; conv => whnf)) | fail)
 . refine ae rfl ?_
   rw [bad true (by simp_all)]; rfl
 . refine ae rfl ?_
   rw [bad true (by simp_all)]; rfl
 have hval : bt w = true := by simpa using ‹(!bt w) = false›
 have hq0 : bc q0 = true := by simpa using ‹(!bc q0) = false›
 have hg : oi w.zones := fun p hp => ⟨hF.few p hp, (mM hval p hp).1⟩
 have htr : ir w q0 = iL w.zones 9 q0 [] := by unfold ir; rw [if_neg (by rw [hval, hq0]; simp)]
 (refine ⟨_, _, Bm w (by have := hF.zones; omega), ?_⟩; conv => whnf)
 refine ⟨ay × List Signed, fun x => ⟨[(2, .ptr 2 0), (3, .ptr 3 0), (4, .ptr 4 0), (6, .ptr 6 0), (7, .own 7)], [(2, .box ((bz w).map .d)), (3, .box ((bE x.1).map .d)), (4, .box [.d (.int .i64 0), .nil 5, .d (.str [])]), (6, .box ((wF w (eE w.zones)).map .d)), (7, .row 63 5 (x.2.map aj))]⟩,
  fun x => bc x.1 = true /\ x.2.length <= 8 /\ iL w.zones (9 - x.2.length) x.1 x.2 = ir w q0, fun x => 9 - x.2.length,
  ⟨(q0, []), ⟨hq0, by simp, by rw [htr]; rfl⟩, (ai.qV 7 7 5 63 5 rfl rfl (by decide)).trans (ai.keep ⟨⟨rfl, rfl⟩, ⟨rfl, rfl⟩, ⟨rfl, rfl⟩, ⟨rfl, rfl⟩, ⟨rfl, rfl⟩, trivial⟩ ⟨⟨rfl, rfl⟩, ⟨rfl, rfl⟩, ⟨rfl, rfl⟩, ⟨rfl, rfl⟩, ⟨rfl, rfl⟩, trivial⟩)⟩, fun ⟨q, kept⟩ ⟨hq, hkl, hinv⟩ => ?_⟩
 dsimp only at hq hkl hinv ⊢
 conv => whnf
 obtain ⟨f, hf⟩ : ∃ f, 9 - kept.length = f + 1 := ⟨8 - kept.length, by omega⟩
 rw [hf] at hinv
 unfold iL at hinv
 (refine ⟨_, _, wk w q hg hq, ?_⟩; conv => whnf)
 refine ab (fun h1 => ?_) (fun h1 => ?_) <;> (rw [h1]; conv => whnf)
 . rw [if_pos h1] at hinv
   refine ae rfl ?_
   rw [<- hinv]; rfl
 rw [if_neg (by rw [h1]; simp)] at hinv
 have hok : (cD w.zones q).2 = true := by simpa using h1
 obtain ⟨p, hpm, u, hpa, hp4⟩ := qo hg hq (x := (cD w.zones q).1) (by rw [<- hok])
 have hal : (cD w.zones q).1.sets.length <= 1000 := by rw [hpa]; exact um u.few q
 refine ab (fun h2 => ?_) (fun h2 => ?_) <;> (rw [h2]; conv => whnf)
 . rw [if_pos h2] at hinv
   refine ⟨by (show (kept.map aj).length + ((cD w.zones q).1.sets.map aj).length <= _); simp; omega, by (show ((kept.map aj).length + ((cD w.zones q).1.sets.map aj).length) * 80 <= _); simp; omega, ?_⟩
   conv => whnf
   refine ae rfl ?_
   rw [<- hinv]
   show AV.tuple _ = AV.tuple _
   simp [eh]; exact ⟨rfl, rfl⟩
 rw [if_neg (by rw [h2]; simp)] at hinv
 have hk3 : (bn p.zone q).1.kind = 3 := by rw [<- hpa]; simpa using h2
 obtain ⟨s, R, d, hs, hsm, hst, hsd, hdv⟩ := u.Ca hk3
 rw [<- hpa] at hs
 rw [hs] at hinv
 simp only [List.head?_cons, hsd] at hinv
 refine ab (fun h3 => ?_) (fun h3 => ?_) <;> (rw [h3]; conv => whnf)
 . have hl8 : kept.length = 8 := by simp at h3; omega
   have : f = 0 := by omega
   subst this
   refine ae rfl ?_
   rw [<- hinv]; rfl
 . rw [hs]
   refine ⟨by decide, aj s, rfl, ?_⟩
   conv => whnf
   refine ⟨by (show (kept.map aj).length + 1 <= _); simp; omega, by (show ((kept.map aj).length + 1) * 80 <= _); simp; omega, ?_⟩
   conv => whnf
   refine ⟨by decide, aj s, rfl, ?_⟩
   conv => whnf
   refine ⟨by decide, bP d, (by rw [hsd]; rfl : (s.set.data.map bP)[(0 : Int).toNat]? = some (bP d)), ?_⟩
   conv => whnf
   have hl8 : kept.length < 8 := by simp at h3; omega
   refine ⟨(⟨d.text, q.type⟩, kept ++ [s]), ⟨?_, by simp; omega, ?_⟩, by (show 9 - (kept ++ [s]).length < 9 - kept.length); simp; omega, ai.keep ⟨⟨rfl, rfl⟩, ⟨rfl, rfl⟩, ⟨rfl, rfl⟩, ⟨rfl, rfl⟩, ⟨rfl, rfl⟩, trivial⟩ ⟨⟨rfl, rfl⟩, ⟨rfl, rfl⟩, ⟨rfl, rfl⟩, ⟨rfl, rfl⟩, ⟨?_, rfl⟩, trivial⟩⟩
   . unfold bc at hq ⊢
     simp only [Bool.and_eq_true] at hq ⊢
     exact ⟨⟨hdv, hq.1.2⟩, hq.2⟩
   . rw [<- hinv]
     congr 1
     simp; omega
   . show some (Blk.row _ _ (kept.map aj ++ [aj s]) _) = _
     rw [List.map_append]; rfl
end Go.Proofs.YtnbnldnfkikakaaGreatDoor
