/-
  Reference 07 on plain data: Add, Cover, Has, Exists, Closest, Wildcard.
-/
import Derived.Test.YtnbnldnfkikakaaGreatDoorLraM
import Derived.Test.YtnbnldnfkikakaaGreatDoorMCa
import Derived.Test.YtnbnldnfkikakaaGreatDoorMRb
set_option linter.all false
set_option maxRecDepth 100000
namespace NP
open NQ Go
def aH (l : List Signed) (z : aq) (q : ax) : List Signed :=
 if decide (atI z.sets q < 0) = true then l else if bl l q = true then l else l ++ (match z.sets[(atI z.sets q).toNat]? with | some s => [s] | none => [])
def kf (n : Bs) (s : Signed) : Bool := (s.set.type == 8) && decide (aw s.set.name n <= 0)
def jh (l : List Signed) (n : Bs) : Nat -> Option Signed
 | 0 => none
 | k + 1 => match l[k]? with | some s => if kf n s = true then some s else jh l n k | none => jh l n k
def aX (l : List Signed) (z : aq) (n : Bs) : List Signed := match jh z.sets n z.sets.length with | some s => aH l z ⟨s.set.name, 8⟩ | none => l
def bF (z : aq) (n : Bs) : Bool := z.sets.any fun s => ao s.set.name n
def sB (z : aq) : Nat -> Bs -> Bs
 | 0, n => n
 | f + 1, n => if bF z n = true then n else sB z f (cd n)
def bT (z : aq) (n : Bs) : Bs := sB z ((az n).length + 1) n
theorem gh (l : List Signed) (z : aq) (q : ax) : (aH l z q).length <= l.length + 1 := by
 unfold aH
 split
 . omega
 . split
   . omega
   . rw [List.length_append]; split <;> simp
theorem vY {s : Bs} (h : af s = true) (x : Bs) (hx : x ∈ az s) : x.length <= 60 := by
 unfold az at hx
 split at hx
 . cases hx
 . exact Nat.le_trans (jb s x hx) (bj h)
theorem xu {l : List Signed} {p : Signed -> Bool} {k : Nat} {s : Signed} (hk : l[k]? = some s) (h : (l.take k).any p = false) : (l.take (k + 1)).any p = p s := by
 rw [bw hk, List.any_append, h]; simp
theorem Ap {l : List Signed} {p : Signed -> Bool} {k : Nat} {s : Signed} (hk : l[k]? = some s) (h : p s = true) : l.any p = true := List.any_eq_true.2 ⟨s, List.mem_of_getElem? hk, h⟩
end NP
namespace Go.Proofs.YtnbnldnfkikakaaGreatDoor
open NQ Go NP Go.RowKit
noncomputable def cxR : Cx := { cx with chg := fun g => match Nat.beq g 121 with | true => 1 | false => (match Nat.beq g 122 with | true => 1 | false => cx.chg g) }
theorem tyR : aT cxR := aB
theorem yC : cxR.P.follows .mixedOrders = true := mixed
theorem kG (l : List Signed) (fl : Bool) (z : aq) (n : Bs) (t : Int) (hl : l.length <= 100000) (hz : z.sets.length <= 100000) :
 FnR cx 121 true 63 5 (l.map ag) fl [.agg (aA z), .str n, .int .i64 t] ((aH l z ⟨n, t⟩).map ag) := by
 refine tR (fun _ => []) aB mixed Tryz.func121 (by kernel_rfl) rfl (Nat.le_of_ble_eq_true rfl) ?_; conv => whnf
 (refine ⟨_, _, w6 z ⟨n, t⟩ hz, ?_⟩; conv => whnf)
 refine ab (fun hneg => ?_) (fun hneg => ?_) <;> (rw [hneg]; conv => whnf)
 . refine ⟨rfl, fl, ?_⟩
   unfold aH; rw [if_pos hneg]; rfl
 refine ⟨Nat, fun k => ⟨[(0, .own 100000), (2, .d (.str n)), (3, .d (.int .i64 t)), (5, .ptr 5 0), (9, .d (.int .i64 (atI z.sets ⟨n, t⟩))), (10, .d (.int .i64 k))],
     [(100000, .row 63 5 (l.map ag) fl), (5, .box ((aA z).map .d))]⟩, fun k => k <= l.length /\ (l.take k).any (is ⟨n, t⟩) = false, fun k => l.length - k,
  ⟨0, ⟨by omega, by simp⟩, ah.keep ⟨⟨rfl, rfl⟩, ⟨rfl, rfl⟩, ⟨rfl, rfl⟩, ⟨rfl, rfl⟩, ⟨rfl, rfl⟩, ⟨rfl, rfl⟩, trivial⟩ ⟨⟨rfl, rfl⟩, ⟨rfl, rfl⟩, trivial⟩⟩, fun k ⟨hk, hno⟩ => ?_⟩
 conv => whnf
 refine ab (fun h1 => ?_) (fun h1 => ?_) <;> (rw [h1]; conv => whnf)
 . have hlt : k < l.length := by simp at h1; omega
   obtain ⟨s, hs⟩ : ∃ s, l[k]? = some s := ⟨_, List.getElem?_eq_getElem hlt⟩
   have hst := xu hs hno
   have next : is ⟨n, t⟩ s = false -> ∀ st, ah cx st ⟨[(0, .own 100000), (2, .d (.str n)), (3, .d (.int .i64 t)), (5, .ptr 5 0), (9, .d (.int .i64 (atI z.sets ⟨n, t⟩))), (10, .d (.int .i64 ((k + 1 : Nat) : Int)))], [(100000, .row 63 5 (l.map ag) fl), (5, .box ((aA z).map .d))]⟩ ->
       ∃ y : Nat, (y <= l.length /\ (l.take y).any (is ⟨n, t⟩) = false) /\ l.length - y < l.length - k /\ ah cx st ⟨[(0, .own 100000), (2, .d (.str n)), (3, .d (.int .i64 t)), (5, .ptr 5 0), (9, .d (.int .i64 (atI z.sets ⟨n, t⟩))), (10, .d (.int .i64 y))], [(100000, .row 63 5 (l.map ag) fl), (5, .box ((aA z).map .d))]⟩ := fun hb st hw =>
    ⟨k + 1, ⟨hlt, by rw [hst, hb]⟩, by omega, hw⟩
   refine ⟨Int.natCast_nonneg k, by (rw [List.length_map]; simpa using hlt), ?_⟩
   conv => whnf
   refine ⟨ag s, by (rw [List.getElem?_map]; show Option.map ag l[((k : Nat) : Int).toNat]? = _; rw [show ((k : Nat) : Int).toNat = k by simp, hs]; rfl), ?_⟩
   conv => whnf
   refine ab (fun hn => ?_) (fun hn => ?_) <;> (rw [hn]; conv => whnf)
   . refine ⟨Int.natCast_nonneg k, by (rw [List.length_map]; simpa using hlt), ?_⟩
     conv => whnf
     refine ⟨ag s, by (rw [List.getElem?_map]; show Option.map ag l[((k : Nat) : Int).toNat]? = _; rw [show ((k : Nat) : Int).toNat = k by simp, hs]; rfl), ?_⟩
     conv => whnf
     refine ab (fun ht => ?_) (fun ht => ?_) <;> (rw [ht]; conv => whnf)
     . refine ⟨rfl, fl, ?_⟩
       have : bl l ⟨n, t⟩ = true := Ap hs (by unfold is; rw [hn, ht]; rfl)
       unfold aH; rw [if_neg (by simp [hneg]), if_pos this]; rfl
     . exact next (by unfold is; rw [hn, ht]; rfl) _ (ah.keep ⟨⟨rfl, rfl⟩, ⟨rfl, rfl⟩, ⟨rfl, rfl⟩, ⟨rfl, rfl⟩, ⟨rfl, rfl⟩, ⟨ak (by omega), rfl⟩, trivial⟩ ⟨⟨rfl, rfl⟩, ⟨rfl, rfl⟩, trivial⟩)
   . exact next (by unfold is; rw [hn]; rfl) _ (ah.keep ⟨⟨rfl, rfl⟩, ⟨rfl, rfl⟩, ⟨rfl, rfl⟩, ⟨rfl, rfl⟩, ⟨rfl, rfl⟩, ⟨ak (by omega), rfl⟩, trivial⟩ ⟨⟨rfl, rfl⟩, ⟨rfl, rfl⟩, trivial⟩)
 . obtain rfl : k = l.length := by simp at h1; omega
   rw [List.take_length] at hno
   have hno' : bl l ⟨n, t⟩ = false := hno
   have h0 : 0 <= atI z.sets ⟨n, t⟩ := by simpa using hneg
   have hlt : atI z.sets ⟨n, t⟩ < z.sets.length := by
    unfold atI; split
    . rename_i k hk; have := (List.findIdx?_eq_some_iff_getElem.1 hk).1; omega
    . omega
   obtain ⟨s, hs⟩ : ∃ s, z.sets[(atI z.sets ⟨n, t⟩).toNat]? = some s := ⟨_, List.getElem?_eq_getElem (by omega)⟩
   refine ⟨h0, ag s, by (rw [List.getElem?_map, hs]; rfl), ?_⟩
   conv => whnf
   refine ⟨by (show (l.map ag).length + 1 <= _; rw [List.length_map]; omega), by (show ((l.map ag).length + 1) * 80 <= _; rw [List.length_map]; omega), ?_⟩
   conv => whnf
   refine ⟨rfl, false, ?_⟩
   unfold aH
   rw [if_neg (by simp [hneg]), if_neg (by simp [hno']), hs, List.map_append]
   show some (Blk.row _ _ (_ ++ _)) = _
   rfl
theorem oM (z : aq) (n : Bs) (hz : z.sets.length <= 100000) (hv : ∀ s ∈ z.sets, af s.set.name = true) (hn : af n = true) : NQ.Fn cx 123 [.agg (aA z), .str n] (.d (.bool (bF z n))) [] := by
 refine ar aB mixed Tryz.func123 (by kernel_rfl) rfl (Nat.le_of_ble_eq_true rfl) ?_; conv => whnf
 refine ⟨Nat, fun k => ⟨[(1, .d (.str n)), (2, .ptr 2 0), (5, .d (.int .i64 k))], [(2, .box ((aA z).map .d))]⟩, fun k => k <= z.sets.length /\ (z.sets.take k).any (fun s => ao s.set.name n) = false, fun k => z.sets.length - k,
  ⟨0, ⟨by omega, by simp⟩, ah.keep ⟨⟨rfl, rfl⟩, ⟨rfl, rfl⟩, ⟨rfl, rfl⟩, trivial⟩ ⟨⟨rfl, rfl⟩, trivial⟩⟩, fun k ⟨hk, hno⟩ => ?_⟩
 conv => whnf
 refine ab (fun h1 => ?_) (fun h1 => ?_) <;> (rw [h1]; conv => whnf)
 . have hlt : k < z.sets.length := by simp at h1; omega
   obtain ⟨s, hs⟩ : ∃ s, z.sets[k]? = some s := ⟨_, List.getElem?_eq_getElem hlt⟩
   have hst := xu hs hno
   refine ⟨Int.natCast_nonneg k, ag s, ay hs, ?_⟩
   conv => whnf
   (refine ⟨_, _, j4 s.set.name n (bj (hv s (List.mem_of_getElem? hs))) (bj hn), ?_⟩; conv => whnf)
   refine ab (fun hu => ?_) (fun hu => ?_) <;> (rw [hu]; conv => whnf)
   . refine ae rfl ?_
     rw [show bF z n = true from Ap (p := fun s => ao s.set.name n) hs hu]; rfl
   . exact ⟨k + 1, ⟨hlt, by rw [hst, hu]⟩, by (show z.sets.length - (k + 1) < z.sets.length - k; omega), ah.keep ⟨⟨rfl, rfl⟩, ⟨rfl, rfl⟩, ⟨ak (by omega), rfl⟩, trivial⟩ ⟨⟨rfl, rfl⟩, trivial⟩⟩
 . obtain rfl : k = z.sets.length := by simp at h1; omega
   refine ae rfl ?_
   rw [List.take_length] at hno
   rw [show bF z n = false from hno]; rfl
theorem Bi (z : aq) (n : Bs) (hz : z.sets.length <= 100000) (hv : ∀ s ∈ z.sets, af s.set.name = true) (hn : af n = true) (hu : ao n z.apex = true) (hex : bF z z.apex = true) : NQ.Fn cx 125 [.agg (aA z), .str n] (.d (.str (bT z n))) [] := by
 refine ar aB mixed Tryz.func125 (by kernel_rfl) rfl (Nat.le_of_ble_eq_true rfl) ?_; conv => whnf
 refine ⟨Bs, fun m => ⟨[(1, .d (.str m)), (2, .ptr 2 0)], [(2, .box ((aA z).map .d))]⟩, fun m => af m = true /\ ao m z.apex = true /\ sB z ((az m).length + 1) m = bT z n, fun m => (az m).length,
  ⟨n, ⟨hn, hu, rfl⟩, ah.keep ⟨⟨rfl, rfl⟩, ⟨rfl, rfl⟩, trivial⟩ ⟨⟨rfl, rfl⟩, trivial⟩⟩, fun m ⟨hm, hum, hgo⟩ => ?_⟩
 conv => whnf
 (refine ⟨_, _, oM z m hz hv hm, ?_⟩; conv => whnf)
 rw [sB] at hgo
 refine ab (fun he => ?_) (fun he => ?_) <;> (rw [he]; conv => whnf)
 . have he : bF z m = false := by simpa using he
   have hne : m ≠ z.apex := fun e => by subst e; rw [hex] at he; cases he
   obtain ⟨k1, k2, k3⟩ := kZ hm hum hne
   rw [if_neg (by simp [he]), <- k3] at hgo
   have hl8 := ri hm
   (refine ⟨_, _, xn m (by have := bj hm; omega), ?_⟩; conv => whnf)
   have hlen : 1 <= (az m).length := by omega
   refine ⟨by decide, by (show (1 : Int) <= ((az m).map aD).length; rw [List.length_map]; omega), by (show (((az m).map aD).length : Int) <= ((az m).map aD).length; omega), ?_⟩
   conv => whnf
   have e : (((az m).map aD).drop (1 : Int).toNat).take ((((az m).map aD).length : Int).toNat - (1 : Int).toNat) = ((az m).tail).map aD := by
    rw [List.take_of_length_le (by simp), List.map_tail, <- List.drop_one]; rfl
   rw [e]
   (refine ⟨_, _, Am (az m).tail (by simp; omega) (fun x hx => by have := vY hm x (List.mem_of_mem_tail hx); omega), ?_⟩; conv => whnf)
   exact ⟨cd m, ⟨eM hm, k2, hgo⟩, by (show (az (cd m)).length < (az m).length; omega), ah.keep ⟨⟨rfl, rfl⟩, ⟨rfl, rfl⟩, trivial⟩ ⟨⟨rfl, rfl⟩, trivial⟩⟩
 . have he : bF z m = true := by simpa using he
   rw [if_pos he] at hgo
   refine ae rfl ?_
   rw [hgo]; rfl
theorem Ak (n : Bs) (hn : af n = true) : NQ.Fn cx 124 [.str n] (.tuple [.d (.str (bB ([42] :: az n)).1), .d (.bool ((bB ([42] :: az n)).2 == 0))]) [] := by
 refine ar aB mixed Tryz.func124 (by kernel_rfl) rfl (Nat.le_of_ble_eq_true rfl) ?_; conv => whnf
 have hl8 := ri hn
 (refine ⟨_, _, xn n (by have := bj hn; omega), ?_⟩; conv => whnf)
 refine ⟨by (show 1 + ((az n).map aD).length <= _; rw [List.length_map]; omega), by (show (1 + ((az n).map aD).length) * 16 <= _; rw [List.length_map]; omega), ?_⟩
 conv => whnf
 have hj := Ep ([42] :: az n) (by simp; omega) (fun x hx => by
  rcases List.mem_cons.1 hx with rfl | hx
  . decide
  . have := vY hn x hx; omega)
 refine ⟨_, hj, rfl, ?_⟩
 conv => whnf
 exact ae rfl rfl
theorem lC (l : List Signed) (fl : Bool) (z : aq) (n : Bs) (hl : l.length <= 100000) (hz : z.sets.length <= 100000) (hv : ∀ s ∈ z.sets, af s.set.name = true) (hn : af n = true) :
 FnR cx 122 true 63 5 (l.map ag) fl [.agg (aA z), .str n] ((aX l z n).map ag) := by
 refine fQ (cx := cxR) (cx' := cx) rfl rfl ?_
 refine tR (fun _ => []) tyR yC Tryz.func122 (by kernel_rfl) rfl (Nat.le_of_ble_eq_true rfl) ?_
 conv => whnf
 have hw : ∀ m : Nat, m <= 100000 -> IntKind.i64.wrap (((m : Nat) : Int) - 1) = ((m : Nat) : Int) - 1 := fun m hm => wrap_i64 (by omega) (by omega)
 refine ⟨Nat, fun k => ⟨[(0, .own 100000), (2, .d (.str n)), (4, .ptr 4 0), (7, .d (.int .i64 ((k : Int) - 1)))], [(100000, .row 63 5 (l.map ag) fl), (4, .box ((aA z).map .d))]⟩,
  fun k => k <= z.sets.length /\ jh z.sets n k = jh z.sets n z.sets.length, fun k => k,
  ⟨z.sets.length, ⟨by omega, rfl⟩, ah.keep ⟨⟨rfl, rfl⟩, ⟨rfl, rfl⟩, ⟨rfl, rfl⟩, ⟨?_, rfl⟩, trivial⟩ ⟨⟨rfl, rfl⟩, ⟨rfl, rfl⟩, trivial⟩⟩, fun k ⟨hk, hgo⟩ => ?_⟩
 . show AV.d (D.int .i64 (IntKind.i64.wrap (((z.sets.map ag).length : Int) - 1))) = _
   rw [List.length_map, hw _ hz]
 conv => whnf
 refine ab (fun h1 => ?_) (fun h1 => ?_) <;> (rw [h1]; conv => whnf)
 . obtain ⟨m, rfl⟩ : ∃ m, k = m + 1 := ⟨k - 1, by simp at h1; omega⟩
   have hm1 : (((m + 1 : Nat) : Int) - 1) = (m : Int) := by omega
   obtain ⟨s, hs⟩ : ∃ s, z.sets[m]? = some s := ⟨_, List.getElem?_eq_getElem (by omega)⟩
   have hvs := hv s (List.mem_of_getElem? hs)
   rw [jh, hs] at hgo
   simp only at hgo
   refine ⟨by omega, ag s, by (rw [hm1]; exact ay hs), ?_⟩
   conv => whnf
   have next : kf n s = false -> ∀ st, ah cxR st ⟨[(0, .own 100000), (2, .d (.str n)), (4, .ptr 4 0), (7, .d (.int .i64 (IntKind.i64.wrap (((m + 1 : Nat) : Int) - 1 - 1))))], [(100000, .row 63 5 (l.map ag) fl), (4, .box ((aA z).map .d))]⟩ ->
       ∃ y : Nat, (y <= z.sets.length /\ jh z.sets n y = jh z.sets n z.sets.length) /\ y < m + 1 /\ ah cxR st ⟨[(0, .own 100000), (2, .d (.str n)), (4, .ptr 4 0), (7, .d (.int .i64 ((y : Int) - 1)))], [(100000, .row 63 5 (l.map ag) fl), (4, .box ((aA z).map .d))]⟩ := fun hb st hw' =>
    ⟨m, ⟨by omega, by rw [<- hgo, if_neg (by simp [hb])]⟩, by omega, by rw [hm1, hw m (by omega)] at hw'; exact hw'⟩
   refine ab (fun ht => ?_) (fun ht => ?_) <;> (rw [ht]; conv => whnf)
   . (refine ⟨_, _, vu s.set.name n (bj hvs) (bj hn), ?_⟩; conv => whnf)
     refine ab (fun ho => ?_) (fun ho => ?_) <;> (rw [ho]; conv => whnf)
     . have hit : kf n s = true := by unfold kf; rw [ht, ho]; rfl
       rw [if_pos hit] at hgo
       refine ⟨_, fQ (cx := cx) (cx' := cxR) rfl rfl (kG l fl z s.set.name 8 hl hz), ?_⟩
       conv => whnf
       refine ⟨rfl, false, ?_⟩
       unfold aX; rw [<- hgo]; rfl
     . exact next (by unfold kf; rw [ht, ho]; rfl) _ (ah.keep ⟨⟨rfl, rfl⟩, ⟨rfl, rfl⟩, ⟨rfl, rfl⟩, ⟨rfl, rfl⟩, trivial⟩ ⟨⟨rfl, rfl⟩, ⟨rfl, rfl⟩, trivial⟩)
   . exact next (by unfold kf; rw [ht]; rfl) _ (ah.keep ⟨⟨rfl, rfl⟩, ⟨rfl, rfl⟩, ⟨rfl, rfl⟩, ⟨rfl, rfl⟩, trivial⟩ ⟨⟨rfl, rfl⟩, ⟨rfl, rfl⟩, trivial⟩)
 . obtain rfl : k = 0 := by simp at h1; omega
   refine ⟨rfl, fl, ?_⟩
   unfold aX; rw [<- hgo]; rfl
end Go.Proofs.YtnbnldnfkikakaaGreatDoor
