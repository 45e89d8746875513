/-
  Texts of the proof, merged in build order.
-/
import Derived.Test.YtnbnldnfkikakaaGreatDoorLrbM
import Derived.Test.YtnbnldnfkikakaaGreatDoorMLcv
import Derived.Test.YtnbnldnfkikakaaGreatDoorMVa
import Derived.Test.YtnbnldnfkikakaaGreatDoorMCa
set_option linter.all false
set_option maxRecDepth 100000
namespace NP
open NQ Go
def oa (l : List Signed) : List Datum := match l[0]? with | some s => s.set.data | none => []
def gz (z : aq) (cut : Bs) (l : List Signed) (h : List Datum) : List Signed := h.foldl (fun l d => if ao d.text cut = true then aH l z ⟨d.text, 1⟩ else l) l
def rl0 (z : aq) (cut : Bs) : List Signed := aH [] z ⟨cut, 2⟩
def rl1 (z : aq) (cut : Bs) : List Signed := aH (rl0 z cut) z ⟨cut, 6⟩
def rl2 (z : aq) (cut : Bs) : List Signed := if (((rl1 z cut).length : Int) == ((rl0 z cut).length : Int)) = true then aH (rl1 z cut) z ⟨cut, 8⟩ else rl1 z cut
def iZ (z : aq) (cut : Bs) : Ans := ⟨4, gz z cut (rl2 z cut) (oa (rl0 z cut)), cut⟩
theorem uk (z : aq) (cut : Bs) (l : List Signed) (h : List Datum) (d : Datum) : gz z cut l (h ++ [d]) = if ao d.text cut = true then aH (gz z cut l h) z ⟨d.text, 1⟩ else gz z cut l h := by
 unfold gz; rw [List.foldl_append]; rfl
theorem qy (z : aq) (cut : Bs) : ∀ (h : List Datum) (l : List Signed), (gz z cut l h).length <= l.length + h.length
 | [], l => by simp [gz]
 | d :: h, l => by
  have e : gz z cut l (d :: h) = gz z cut (if ao d.text cut = true then aH l z ⟨d.text, 1⟩ else l) h := rfl
  rw [e]
  have := qy z cut h (if ao d.text cut = true then aH l z ⟨d.text, 1⟩ else l)
  have h2 := gh l z ⟨d.text, 1⟩
  rw [List.length_cons]
  split at this <;> rename_i hc <;> simp only [hc, if_true, if_false, Bool.false_eq_true] <;> omega
theorem DW {s : ga} (h : dh s = true) (ht : s.type = 2) : ∀ d ∈ s.data, af d.text = true := fun d hd => by
 unfold dh at h
 simp only [Bool.and_eq_true, List.all_eq_true, List.mem_range] at h
 obtain ⟨i, hi⟩ := List.getElem?_of_mem hd
 have hlt := (List.getElem?_eq_some_iff.1 hi).1
 have := h.2 i hlt
 obtain ⟨p, hp⟩ : ∃ p, s.data[i - 1]? = some p := ⟨_, List.getElem?_eq_getElem (by omega)⟩
 rw [sG hi hp, ht] at this
 have hr : dG 2 = ⟨1, 0, 0, 0, 0, false, false, false⟩ := rfl
 rw [hr] at this
 simp only [lD, dM, iH, Bool.not_eq_true', Bool.or_eq_false_iff, Bool.not_eq_false', Bool.and_eq_true, if_true] at this
 exact this.1.2.1
theorem A1 {z : aq} (ho : Ordered z) (hf : dj z = true) : ∀ s ∈ z.sets, s.set.data.length <= 900 /\ (s.set.type = 2 -> ∀ d ∈ s.set.data, af d.text = true) := fun s hs =>
 ⟨by have := ((cA hf).2 s hs).1; omega, fun ht => DW (ho.set s hs) ht⟩
theorem nn {z : aq} {n : Bs} (ho : Ordered z) (h : aK z n ≠ []) : af (aK z n) = true /\ bl z.sets ⟨aK z n, 2⟩ = true := by
 unfold aK at h ⊢
 cases hf : (bJ z.apex z.sets).find? fun c => ao n c with
 | none => rw [hf] at h; exact absurd rfl h
 | some c =>
  have hm := List.mem_of_find?_eq_some hf
  obtain ⟨_, _, h3, _, h5⟩ := C8 ho hm
  exact ⟨h3, h5⟩
theorem l9 {z : aq} {q : ax} (h : bl z.sets q = true) : bF z q.name = true := by
 obtain ⟨s, hs, hp⟩ := gR.1 h
 have : s.set.name = q.name := congrArg Prod.fst hp
 exact List.any_eq_true.2 ⟨s, hs, by rw [this]; exact eE _⟩
theorem Bk (l : List Signed) (z : aq) (n : Bs) : (aX l z n).length <= l.length + 1 := by
 unfold aX; split
 . exact gh _ _ _
 . omega
theorem po {z : aq} {n : Bs} (hn : af n = true) : af (bT z n) = true := by
 unfold bT
 generalize (az n).length + 1 = f
 induction f generalizing n with
 | zero => exact hn
 | succ f ih =>
  rw [sB]
  split
  . exact hn
  . exact ih (eM hn)
theorem C9 {c : Bs} (h : (!(c == [])) = true) : c ≠ [] := by intro e; rw [e] at h; cases h
theorem sw {z : aq} {q : ax} (h : bl z.sets q = true) : ∃ s, s ∈ z.sets /\ s.place = q.place /\ aH [] z q = [s] := by
 obtain ⟨k, s, h1, h2, h3⟩ := j8 h
 refine ⟨s, List.mem_of_getElem? h2, h3, ?_⟩
 unfold aH
 rw [h1, if_neg (by simp), if_neg (by simp [bl])]
 simp [h2]
theorem CH {z : aq} {q : ax} (h : bl z.sets q = false) : aH [] z q = [] := by
 unfold aH
 rw [eY, h]; rfl
def dI (q : ax) : Bool := q.type == 6 || q.type == 8
def jE (z : aq) (q : ax) : Ans × Int :=
 if (!aQ z || !aP q) = true then (dX, 1) else if (!ao q.name z.apex) = true then (⟨7, [], []⟩, 0)
 else if (!(aK z q.name == []) && (!(aK z q.name == q.name) || !dI q)) = true then (iZ z (aK z q.name), 0)
 else if decide (((aH [] z q).length : Int) > 0) = true then (⟨1, aH [] z q, []⟩, 0)
 else if (decide (((aH [] z ⟨q.name, 3⟩).length : Int) > 0) && (q.type != 8)) = true then (⟨3, aH [] z ⟨q.name, 3⟩, []⟩, 0)
 else if bF z q.name = true then (⟨5, aX (aH [] z ⟨z.apex, 4⟩) z q.name, []⟩, 0)
 else if (!((bB ([42] :: az (bT z q.name))).2 == 0)) = true then (⟨6, aX (aH [] z ⟨z.apex, 4⟩) z q.name, []⟩, 0)
 else let w := (bB ([42] :: az (bT z q.name))).1
 if decide (((aH [] z ⟨w, q.type⟩).length : Int) > 0) = true then (⟨2, aX (aH [] z ⟨w, q.type⟩) z q.name, []⟩, 0)
 else if (decide (((aH [] z ⟨w, 3⟩).length : Int) > 0) && (q.type != 8)) = true then (⟨3, aX (aH [] z ⟨w, 3⟩) z q.name, []⟩, 0)
 else if bF z w = true then (⟨5, aX (aX (aH [] z ⟨z.apex, 4⟩) z q.name) z w, []⟩, 0)
 else (⟨6, aX (aX (aH [] z ⟨z.apex, 4⟩) z q.name) z w, []⟩, 0)
end NP
namespace Go.Proofs.YtnbnldnfkikakaaGreatDoor
open NQ Go NP Go.RowKit
theorem DR (z : aq) (cut : Bs) (hz : z.sets.length <= 10000) (hc : af cut = true) (hcut : bl z.sets ⟨cut, 2⟩ = true) (hd : ∀ s ∈ z.sets, s.set.data.length <= 900 /\ (s.set.type = 2 -> ∀ d ∈ s.set.data, af d.text = true)) :
 NQ.Fn cx 120 [.agg (aA z), .str cut] (.agg ((cR (iZ z cut)).map .d)) [] := by
 show NQ.Fn cxR _ _ _ _
 refine cM (fun | 11 => [66666] | _ => []) tyR yC Tryz.func120 (by kernel_rfl) rfl (Nat.le_of_ble_eq_true rfl) ?_
 conv => whnf
 have addK : ∀ (l : List Signed) (fl : Bool) (n : Bs) (t : Int), l.length <= 100000 -> FnR cxR 121 true 63 5 (l.map ag) fl [.agg (aA z), .str n, .int .i64 t] ((aH l z ⟨n, t⟩).map ag) := fun l fl n t hl => fQ (cx := cx) (cx' := cxR) rfl rfl (kG l fl z n t hl (by omega))
 obtain ⟨s0, hs0, hp0, e0⟩ := sw hcut
 have hr0 : rl0 z cut = [s0] := e0
 have hdat := (hd s0 hs0).1
 have hdn := (hd s0 hs0).2 (by have := congrArg Prod.snd hp0; exact this)
 refine ⟨_, addK [] false cut 2 (by simp), ?_⟩
 conv => whnf
 rw [e0]
 refine ⟨by decide, by simp, ?_⟩
 conv => whnf
 refine ⟨_, rfl, ?_⟩
 conv => whnf
 refine ⟨_, addK [s0] _ cut 6 (by simp), ?_⟩
 conv => whnf
 have hr1 : rl1 z cut = aH [s0] z ⟨cut, 6⟩ := by unfold rl1; rw [hr0]
 have hl1 := gh [s0] z ⟨cut, 6⟩
 have hl2 := gh (aH [s0] z ⟨cut, 6⟩) z ⟨cut, 8⟩
 have hlist : (((aH [s0] z ⟨cut, 6⟩).map ag).length : Int) = ((rl1 z cut).length : Int) := by rw [List.length_map, hr1]
 have hlist0 : (([s0].map ag).length : Int) = ((rl0 z cut).length : Int) := by rw [List.length_map, hr0]
 rw [hlist, hlist0]
 have hho : oa (rl0 z cut) = s0.set.data := by unfold oa; rw [hr0]; rfl
 have h2len : (rl2 z cut).length <= 3 := by
  unfold rl2; rw [hr1]
  have h1' : [s0].length = 1 := rfl
  split <;> omega
 refine ab (fun heq => ?_) (fun heq => ?_) <;> (rw [heq]; conv => whnf)
 . have hr2 : rl2 z cut = aH (aH [s0] z ⟨cut, 6⟩) z ⟨cut, 8⟩ := by unfold rl2; rw [if_pos heq, hr1]
   refine ⟨_, addK (aH [s0] z ⟨cut, 6⟩) _ cut 8 (by simp at hl1; omega), ?_⟩
   conv => whnf
   (refine ⟨Nat, fun k => ⟨[(1, .d (.str cut)), (2, .ptr 2 0), (4, .ptr 4 0), (5, .own 11), (6, .d (.slice 3 (s0.set.data.map bG))), (8, .d (.int .i64 k))], [(2, .box ((aA z).map .d)), (4, .box [.d (.int .i64 0), .nil 5, .d (.str [])]), (11, .row 63 5 ((gz z cut (rl2 z cut) (s0.set.data.take k)).map ag))]⟩, fun k => k <= s0.set.data.length, fun k => s0.set.data.length - k, ⟨0, by omega, ah.keep ⟨⟨rfl, rfl⟩, ⟨rfl, rfl⟩, ⟨rfl, rfl⟩, ⟨rfl, rfl⟩, ⟨rfl, rfl⟩, ⟨rfl, rfl⟩, trivial⟩ ⟨⟨rfl, rfl⟩, ⟨rfl, rfl⟩, ⟨by (rw [hr2]; rfl), rfl⟩, trivial⟩⟩, fun k hk => ?_⟩; (conv => whnf); refine ab (fun h1 => ?_) (fun h1 => ?_) <;> (rw [h1]; conv => whnf))
   . have hlt : k < s0.set.data.length := by simp at h1; omega
     obtain ⟨d, hdk⟩ : ∃ d, s0.set.data[k]? = some d := ⟨_, List.getElem?_eq_getElem hlt⟩
     have hdv := hdn d (List.mem_of_getElem? hdk)
     have hsn := uk z cut (rl2 z cut) (s0.set.data.take k) d
     rw [<- bw hdk] at hsn
     have hrl := qy z cut (s0.set.data.take k) (rl2 z cut)
     rw [List.length_take] at hrl
     refine ⟨Int.natCast_nonneg k, bG d, ay hdk, ?_⟩
     conv => whnf
     (refine ⟨_, _, j4 d.text cut (bj hdv) (bj hc), ?_⟩; conv => whnf)
     refine ab (fun hu => ?_) (fun hu => ?_) <;> (rw [hu]; conv => whnf)
     . rw [if_pos hu] at hsn
       (refine ⟨(by kernel_rfl : iM _ = true), ?_⟩; conv => whnf)
       refine ⟨Int.natCast_nonneg k, bG d, ay hdk, ?_⟩
       conv => whnf
       refine ⟨_, addK _ _ d.text 1 (by omega), ?_⟩
       conv => whnf
       (repeat (refine ⟨by kernel_rfl, ?_⟩)); conv => whnf
       exact ⟨k + 1, hlt, by (show s0.set.data.length - (k + 1) < s0.set.data.length - k; omega), ah.keep ⟨⟨rfl, rfl⟩, ⟨rfl, rfl⟩, ⟨rfl, rfl⟩, ⟨rfl, rfl⟩, ⟨rfl, rfl⟩, ⟨ak (by omega), rfl⟩, trivial⟩ ⟨⟨rfl, rfl⟩, ⟨rfl, rfl⟩, ⟨by (rw [hsn]; rfl), rfl⟩, trivial⟩⟩
     . rw [if_neg (by simp [hu])] at hsn
       exact ⟨k + 1, hlt, by (show s0.set.data.length - (k + 1) < s0.set.data.length - k; omega), ah.keep ⟨⟨rfl, rfl⟩, ⟨rfl, rfl⟩, ⟨rfl, rfl⟩, ⟨rfl, rfl⟩, ⟨rfl, rfl⟩, ⟨ak (by omega), rfl⟩, trivial⟩ ⟨⟨rfl, rfl⟩, ⟨rfl, rfl⟩, ⟨by (rw [hsn]; rfl), rfl⟩, trivial⟩⟩
   . obtain rfl : k = s0.set.data.length := by simp at h1; omega
     refine ae rfl ?_
     unfold iZ
     rw [hho, List.take_length]
     rfl
 . have hr2 : rl2 z cut = aH [s0] z ⟨cut, 6⟩ := by unfold rl2; rw [if_neg (by simp [heq]), hr1]
   (refine ⟨Nat, fun k => ⟨[(1, .d (.str cut)), (2, .ptr 2 0), (4, .ptr 4 0), (5, .own 11), (6, .d (.slice 3 (s0.set.data.map bG))), (8, .d (.int .i64 k))], [(2, .box ((aA z).map .d)), (4, .box [.d (.int .i64 0), .nil 5, .d (.str [])]), (11, .row 63 5 ((gz z cut (rl2 z cut) (s0.set.data.take k)).map ag))]⟩, fun k => k <= s0.set.data.length, fun k => s0.set.data.length - k, ⟨0, by omega, ah.keep ⟨⟨rfl, rfl⟩, ⟨rfl, rfl⟩, ⟨rfl, rfl⟩, ⟨rfl, rfl⟩, ⟨rfl, rfl⟩, ⟨rfl, rfl⟩, trivial⟩ ⟨⟨rfl, rfl⟩, ⟨rfl, rfl⟩, ⟨by (rw [hr2]; rfl), rfl⟩, trivial⟩⟩, fun k hk => ?_⟩; (conv => whnf); refine ab (fun h1 => ?_) (fun h1 => ?_) <;> (rw [h1]; conv => whnf))
   . have hlt : k < s0.set.data.length := by simp at h1; omega
     obtain ⟨d, hdk⟩ : ∃ d, s0.set.data[k]? = some d := ⟨_, List.getElem?_eq_getElem hlt⟩
     have hdv := hdn d (List.mem_of_getElem? hdk)
     have hsn := uk z cut (rl2 z cut) (s0.set.data.take k) d
     rw [<- bw hdk] at hsn
     have hrl := qy z cut (s0.set.data.take k) (rl2 z cut)
     rw [List.length_take] at hrl
     refine ⟨Int.natCast_nonneg k, bG d, ay hdk, ?_⟩
     conv => whnf
     (refine ⟨_, _, j4 d.text cut (bj hdv) (bj hc), ?_⟩; conv => whnf)
     refine ab (fun hu => ?_) (fun hu => ?_) <;> (rw [hu]; conv => whnf)
     . rw [if_pos hu] at hsn
       (refine ⟨(by kernel_rfl : iM _ = true), ?_⟩; conv => whnf)
       refine ⟨Int.natCast_nonneg k, bG d, ay hdk, ?_⟩
       conv => whnf
       refine ⟨_, addK _ _ d.text 1 (by omega), ?_⟩
       conv => whnf
       (repeat (refine ⟨by kernel_rfl, ?_⟩)); conv => whnf
       exact ⟨k + 1, hlt, by (show s0.set.data.length - (k + 1) < s0.set.data.length - k; omega), ah.keep ⟨⟨rfl, rfl⟩, ⟨rfl, rfl⟩, ⟨rfl, rfl⟩, ⟨rfl, rfl⟩, ⟨rfl, rfl⟩, ⟨ak (by omega), rfl⟩, trivial⟩ ⟨⟨rfl, rfl⟩, ⟨rfl, rfl⟩, ⟨by (rw [hsn]; rfl), rfl⟩, trivial⟩⟩
     . rw [if_neg (by simp [hu])] at hsn
       exact ⟨k + 1, hlt, by (show s0.set.data.length - (k + 1) < s0.set.data.length - k; omega), ah.keep ⟨⟨rfl, rfl⟩, ⟨rfl, rfl⟩, ⟨rfl, rfl⟩, ⟨rfl, rfl⟩, ⟨rfl, rfl⟩, ⟨ak (by omega), rfl⟩, trivial⟩ ⟨⟨rfl, rfl⟩, ⟨rfl, rfl⟩, ⟨by (rw [hsn]; rfl), rfl⟩, trivial⟩⟩
   . obtain rfl : k = s0.set.data.length := by simp at h1; omega
     refine ae rfl ?_
     unfold iZ
     rw [hho, List.take_length]
     rfl
def fzR : Nat -> List Nat
 | 11 => [55555]
 | 14 => [55555]
 | 17 => [66666, 55555]
 | 18 => [55555]
 | 20 => [55555]
 | 23 => [55555]
 | 26 => [55555]
 | 29 => [55555]
 | _ => []
def stR (z : aq) (q : ax) : St := ⟨[(2, .ptr 2 0), (3, .ptr 3 0), (4, .ptr 4 0)], [(2, .box ((aA z).map .d)), (3, .box ((bA q).map .d)), (4, .box [.d (.int .i64 0), .nil 5, .d (.str [])])]⟩
def y3 (z : aq) (q : ax) (w : Bs) (proof : List Signed) : St := ⟨[(2, .ptr 2 0), (3, .ptr 3 0), (4, .ptr 4 0), (11, .own 87), (12, .d (.str w))], [(2, .box ((aA z).map .d)), (3, .box ((bA q).map .d)), (4, .box [.d (.int .i64 0), .nil 5, .d (.str [])]), (87, .row 63 5 (proof.map ag))]⟩
def I5 (z : aq) (q : ax) (proof : List Signed) : St := ⟨[(2, .ptr 2 0), (3, .ptr 3 0), (4, .ptr 4 0), (11, .own 87)], [(2, .box ((aA z).map .d)), (3, .box ((bA q).map .d)), (4, .box [.d (.int .i64 0), .nil 5, .d (.str [])]), (87, .row 63 5 (proof.map ag))]⟩
theorem pv (z : aq) (q : ax) (hf : dj z = true) (hv : aQ z = true) (hq : aP q = true) (w : Bs) (hwv : af w = true) (proof : List Signed) (hpl : proof.length <= 1000) (r : Ans × Int) (hr : (if bF z w = true then ((⟨5, aX proof z w, []⟩ : Ans), (0 : Int)) else (⟨6, aX proof z w, []⟩, 0)) = r) (st : St) (hw : ah cxR st (y3 z q w proof)) :
 vc cxR Tryz.f75.ntmps fzR (pf 20 ((Tryz.f75.body).getD .skip)) (fnQ cxR Tryz.f75.results.toList (.tuple [.agg ((cR r.1).map .d), .d (.int .i64 r.2)]) []) st := by
 obtain ⟨f1, f2⟩ := cA hf
 have hz5 : z.sets.length <= 100000 := by omega
 have addK : ∀ (l : List Signed) (fl : Bool) (n : Bs) (t : Int), l.length <= 100000 -> FnR cxR 121 true 63 5 (l.map ag) fl [.agg (aA z), .str n, .int .i64 t] ((aH l z ⟨n, t⟩).map ag) := fun l fl n t hl => fQ (cx := cx) (cx' := cxR) rfl rfl (kG l fl z n t hl hz5)
 have lenE : ∀ n t, (((aH [] z ⟨n, t⟩).map ag).length : Int) = ((aH [] z ⟨n, t⟩).length : Int) := fun n t => by rw [List.length_map]
 have len1 : ∀ n t, (aH [] z ⟨n, t⟩).length <= 100 := fun n t => by have := gh [] z ⟨n, t⟩; simp at this; omega
 have ho := aS hv
 have hqn : af q.name = true := by unfold aP at hq; simp only [Bool.and_eq_true] at hq; exact hq.1.1
 have covK : ∀ (l : List Signed) (fl : Bool) (n : Bs), l.length <= 100000 -> af n = true -> FnR cxR 122 true 63 5 (l.map ag) fl [.agg (aA z), .str n] ((aX l z n).map ag) := fun l fl n hl hn => fQ (cx := cx) (cx' := cxR) rfl rfl (lC l fl z n hl hz5 ho.name hn)
 conv => whnf
 refine ⟨y3 z q w proof, hw, ?_⟩
 conv => whnf
 refine ⟨_, covK proof _ w (by omega) hwv, ?_⟩
 conv => whnf
 (refine ⟨_, _, oM z w hz5 ho.name hwv, ?_⟩; conv => whnf)
 refine ab (fun hew => ?_) (fun hew => ?_) <;> (rw [hew]; conv => whnf)
 . rw [if_pos hew] at hr; subst hr; exact ae rfl rfl
 . rw [if_neg (by rw [hew]; simp)] at hr; subst hr; exact ae rfl rfl
theorem wS (z : aq) (q : ax) (hf : dj z = true) (hv : aQ z = true) (hq : aP q = true) (w : Bs) (hwv : af w = true) (proof : List Signed) (hpl : proof.length <= 1000) (r : Ans × Int) (hr : (if decide (((aH [] z ⟨w, q.type⟩).length : Int) > 0) = true then ((⟨2, aX (aH [] z ⟨w, q.type⟩) z q.name, []⟩ : Ans), (0 : Int))
      else if (decide (((aH [] z ⟨w, 3⟩).length : Int) > 0) && (q.type != 8)) = true then (⟨3, aX (aH [] z ⟨w, 3⟩) z q.name, []⟩, 0)
      else if bF z w = true then (⟨5, aX proof z w, []⟩, 0) else (⟨6, aX proof z w, []⟩, 0)) = r) (st : St) (hw : ah cxR st (y3 z q w proof)) :
 vc cxR Tryz.f75.ntmps fzR (pf 16 ((Tryz.f75.body).getD .skip)) (fnQ cxR Tryz.f75.results.toList (.tuple [.agg ((cR r.1).map .d), .d (.int .i64 r.2)]) []) st := by
 obtain ⟨f1, f2⟩ := cA hf
 have hz5 : z.sets.length <= 100000 := by omega
 have addK : ∀ (l : List Signed) (fl : Bool) (n : Bs) (t : Int), l.length <= 100000 -> FnR cxR 121 true 63 5 (l.map ag) fl [.agg (aA z), .str n, .int .i64 t] ((aH l z ⟨n, t⟩).map ag) := fun l fl n t hl => fQ (cx := cx) (cx' := cxR) rfl rfl (kG l fl z n t hl hz5)
 have lenE : ∀ n t, (((aH [] z ⟨n, t⟩).map ag).length : Int) = ((aH [] z ⟨n, t⟩).length : Int) := fun n t => by rw [List.length_map]
 have len1 : ∀ n t, (aH [] z ⟨n, t⟩).length <= 100 := fun n t => by have := gh [] z ⟨n, t⟩; simp at this; omega
 have ho := aS hv
 have hqn : af q.name = true := by unfold aP at hq; simp only [Bool.and_eq_true] at hq; exact hq.1.1
 have covK : ∀ (l : List Signed) (fl : Bool) (n : Bs), l.length <= 100000 -> af n = true -> FnR cxR 122 true 63 5 (l.map ag) fl [.agg (aA z), .str n] ((aX l z n).map ag) := fun l fl n hl hn => fQ (cx := cx) (cx' := cxR) rfl rfl (lC l fl z n hl hz5 ho.name hn)
 conv => whnf
 refine ⟨y3 z q w proof, hw, ?_⟩
 conv => whnf
 refine ⟨_, addK [] false w q.type (by simp), ?_⟩
 conv => whnf
 rw [lenE]
 refine ab (fun hdw => ?_) (fun hdw => ?_) <;> (rw [hdw]; conv => whnf)
 . rw [if_pos hdw] at hr; subst hr
   refine ⟨_, covK (aH [] z ⟨w, q.type⟩) _ q.name (by have := len1 w q.type; omega) hqn, ?_⟩
   conv => whnf
   exact ae rfl rfl
 rw [if_neg (by rw [hdw]; simp)] at hr
 refine ⟨y3 z q w proof, ah.keep ⟨⟨rfl, rfl⟩, ⟨rfl, rfl⟩, ⟨rfl, rfl⟩, ⟨rfl, rfl⟩, ⟨rfl, rfl⟩, trivial⟩ ⟨⟨rfl, rfl⟩, ⟨rfl, rfl⟩, ⟨rfl, rfl⟩, ⟨rfl, rfl⟩, trivial⟩, ?_⟩
 conv => whnf
 refine ⟨_, addK [] false w 3 (by simp), ?_⟩
 conv => whnf
 rw [lenE]
 refine ab (fun haw => ?_) (fun haw => ?_) <;> (rw [haw]; conv => whnf)
 . refine ab (fun h8w => ?_) (fun h8w => ?_) <;> (rw [h8w]; conv => whnf)
   . rw [if_pos (by rw [haw, h8w]; rfl)] at hr; subst hr
     refine ⟨_, covK (aH [] z ⟨w, 3⟩) _ q.name (by have := len1 w 3; omega) hqn, ?_⟩
     conv => whnf
     exact ae rfl rfl
   . rw [if_neg (by rw [haw, h8w]; simp)] at hr
     exact pv z q hf hv hq w hwv proof hpl r hr _ (ah.keep ⟨⟨rfl, rfl⟩, ⟨rfl, rfl⟩, ⟨rfl, rfl⟩, ⟨rfl, rfl⟩, ⟨rfl, rfl⟩, trivial⟩ ⟨⟨rfl, rfl⟩, ⟨rfl, rfl⟩, ⟨rfl, rfl⟩, ⟨rfl, rfl⟩, trivial⟩)
 . rw [if_neg (by rw [haw]; simp)] at hr
   exact pv z q hf hv hq w hwv proof hpl r hr _ (ah.keep ⟨⟨rfl, rfl⟩, ⟨rfl, rfl⟩, ⟨rfl, rfl⟩, ⟨rfl, rfl⟩, ⟨rfl, rfl⟩, trivial⟩ ⟨⟨rfl, rfl⟩, ⟨rfl, rfl⟩, ⟨rfl, rfl⟩, ⟨rfl, rfl⟩, trivial⟩)
set_option maxHeartbeats 1000000 in
theorem pt (z : aq) (q : ax) (hf : dj z = true) (hv : aQ z = true) (hq : aP q = true) (hu : ao q.name z.apex = true) (r : Ans × Int) (hr : (if bF z q.name = true then ((⟨5, aX (aH [] z ⟨z.apex, 4⟩) z q.name, []⟩ : Ans), (0 : Int))
      else if (!((bB ([42] :: az (bT z q.name))).2 == 0)) = true then (⟨6, aX (aH [] z ⟨z.apex, 4⟩) z q.name, []⟩, 0)
      else let w := (bB ([42] :: az (bT z q.name))).1
      if decide (((aH [] z ⟨w, q.type⟩).length : Int) > 0) = true then (⟨2, aX (aH [] z ⟨w, q.type⟩) z q.name, []⟩, 0)
      else if (decide (((aH [] z ⟨w, 3⟩).length : Int) > 0) && (q.type != 8)) = true then (⟨3, aX (aH [] z ⟨w, 3⟩) z q.name, []⟩, 0)
      else if bF z w = true then (⟨5, aX (aX (aH [] z ⟨z.apex, 4⟩) z q.name) z w, []⟩, 0)
      else (⟨6, aX (aX (aH [] z ⟨z.apex, 4⟩) z q.name) z w, []⟩, 0)) = r) (st : St) (hw : ah cxR st (stR z q)) :
 vc cxR Tryz.f75.ntmps fzR (pf 12 ((Tryz.f75.body).getD .skip)) (fnQ cxR Tryz.f75.results.toList (.tuple [.agg ((cR r.1).map .d), .d (.int .i64 r.2)]) []) st := by
 obtain ⟨f1, f2⟩ := cA hf
 have hz5 : z.sets.length <= 100000 := by omega
 have addK : ∀ (l : List Signed) (fl : Bool) (n : Bs) (t : Int), l.length <= 100000 -> FnR cxR 121 true 63 5 (l.map ag) fl [.agg (aA z), .str n, .int .i64 t] ((aH l z ⟨n, t⟩).map ag) := fun l fl n t hl => fQ (cx := cx) (cx' := cxR) rfl rfl (kG l fl z n t hl hz5)
 have lenE : ∀ n t, (((aH [] z ⟨n, t⟩).map ag).length : Int) = ((aH [] z ⟨n, t⟩).length : Int) := fun n t => by rw [List.length_map]
 have len1 : ∀ n t, (aH [] z ⟨n, t⟩).length <= 100 := fun n t => by have := gh [] z ⟨n, t⟩; simp at this; omega
 have ho := aS hv
 have hqn : af q.name = true := by unfold aP at hq; simp only [Bool.and_eq_true] at hq; exact hq.1.1
 have covK : ∀ (l : List Signed) (fl : Bool) (n : Bs), l.length <= 100000 -> af n = true -> FnR cxR 122 true 63 5 (l.map ag) fl [.agg (aA z), .str n] ((aX l z n).map ag) := fun l fl n hl hn => fQ (cx := cx) (cx' := cxR) rfl rfl (lC l fl z n hl hz5 ho.name hn)
 have hval := ow.1 hv
 have hex : bF z z.apex = true := l9 hval.start
 have hcl : af (bT z q.name) = true := po hqn
 conv => whnf
 refine ⟨stR z q, hw, ?_⟩
 conv => whnf
 (refine ⟨(by kernel_rfl : iM _ = true), ?_⟩; conv => whnf)
 refine ⟨_, addK [] false z.apex 4 (by simp), ?_⟩
 conv => whnf
 (repeat (refine ⟨by kernel_rfl, ?_⟩)); conv => whnf
 refine ⟨_, covK (aH [] z ⟨z.apex, 4⟩) _ q.name (by have := len1 z.apex 4; omega) hqn, ?_⟩
 conv => whnf
 (repeat (refine ⟨by kernel_rfl, ?_⟩)); conv => whnf
 refine ⟨I5 z q (aX (aH [] z ⟨z.apex, 4⟩) z q.name), ah.keep ⟨⟨rfl, rfl⟩, ⟨rfl, rfl⟩, ⟨rfl, rfl⟩, ⟨rfl, rfl⟩, trivial⟩ ⟨⟨rfl, rfl⟩, ⟨rfl, rfl⟩, ⟨rfl, rfl⟩, ⟨rfl, rfl⟩, trivial⟩, ?_⟩
 conv => whnf
 (refine ⟨_, _, oM z q.name hz5 ho.name hqn, ?_⟩; conv => whnf)
 refine ab (fun he => ?_) (fun he => ?_) <;> (rw [he]; conv => whnf)
 . rw [if_pos he] at hr; subst hr; exact ae rfl rfl
 rw [if_neg (by rw [he]; simp)] at hr
 refine ⟨I5 z q (aX (aH [] z ⟨z.apex, 4⟩) z q.name), ah.keep ⟨⟨rfl, rfl⟩, ⟨rfl, rfl⟩, ⟨rfl, rfl⟩, ⟨rfl, rfl⟩, trivial⟩ ⟨⟨rfl, rfl⟩, ⟨rfl, rfl⟩, ⟨rfl, rfl⟩, ⟨rfl, rfl⟩, trivial⟩, ?_⟩
 conv => whnf
 (refine ⟨_, _, Bi z q.name hz5 ho.name hqn hu hex, ?_⟩; conv => whnf)
 (refine ⟨_, _, Ak (bT z q.name) hcl, ?_⟩; conv => whnf)
 refine ab (fun hj => ?_) (fun hj => ?_) <;> (rw [hj]; conv => whnf)
 . rw [if_pos hj] at hr; subst hr; exact ae rfl rfl
 rw [if_neg (by rw [hj]; simp)] at hr
 have hwv : af (bB ([42] :: az (bT z q.name))).1 = true := by
  have hj0 : (bB ([42] :: az (bT z q.name))).2 = 0 := by simpa using hj
  unfold bB at hj0 ⊢
  split
  . rename_i h; exact (rf h).1
  . rename_i h; rw [if_neg h] at hj0; simp at hj0
 have hcl2 := Bk (aH [] z ⟨z.apex, 4⟩) z q.name
 have hl4 := len1 z.apex 4
 exact wS z q hf hv hq _ hwv _ (by omega) r hr _ (ah.keep ⟨⟨rfl, rfl⟩, ⟨rfl, rfl⟩, ⟨rfl, rfl⟩, ⟨rfl, rfl⟩, ⟨rfl, rfl⟩, trivial⟩ ⟨⟨rfl, rfl⟩, ⟨rfl, rfl⟩, ⟨rfl, rfl⟩, ⟨rfl, rfl⟩, trivial⟩)
theorem yR (z : aq) (q : ax) (hf : dj z = true) (hv : aQ z = true) (hq : aP q = true) (hu : ao q.name z.apex = true) (hno : (!(aK z q.name == []) && (!(aK z q.name == q.name) || !dI q)) = false) (r : Ans × Int) (hr : jE z q = r) (st : St) (hw : ah cxR st (stR z q)) :
 vc cxR Tryz.f75.ntmps fzR (pf 8 ((Tryz.f75.body).getD .skip)) (fnQ cxR Tryz.f75.results.toList (.tuple [.agg ((cR r.1).map .d), .d (.int .i64 r.2)]) []) st := by
 obtain ⟨f1, f2⟩ := cA hf
 have hz5 : z.sets.length <= 100000 := by omega
 have addK : ∀ (l : List Signed) (fl : Bool) (n : Bs) (t : Int), l.length <= 100000 -> FnR cxR 121 true 63 5 (l.map ag) fl [.agg (aA z), .str n, .int .i64 t] ((aH l z ⟨n, t⟩).map ag) := fun l fl n t hl => fQ (cx := cx) (cx' := cxR) rfl rfl (kG l fl z n t hl hz5)
 have lenE : ∀ n t, (((aH [] z ⟨n, t⟩).map ag).length : Int) = ((aH [] z ⟨n, t⟩).length : Int) := fun n t => by rw [List.length_map]
 have len1 : ∀ n t, (aH [] z ⟨n, t⟩).length <= 100 := fun n t => by have := gh [] z ⟨n, t⟩; simp at this; omega
 have ho := aS hv
 have hqn : af q.name = true := by unfold aP at hq; simp only [Bool.and_eq_true] at hq; exact hq.1.1
 have covK : ∀ (l : List Signed) (fl : Bool) (n : Bs), l.length <= 100000 -> af n = true -> FnR cxR 122 true 63 5 (l.map ag) fl [.agg (aA z), .str n] ((aX l z n).map ag) := fun l fl n hl hn => fQ (cx := cx) (cx' := cxR) rfl rfl (lC l fl z n hl hz5 ho.name hn)
 have hvq : (!aQ z || !aP q) = false := by rw [hv, hq]; rfl
 unfold jE at hr
 rw [if_neg (by simp [hvq]), if_neg (by simp [hu]), if_neg (by rw [hno]; simp)] at hr
 conv => whnf
 refine ⟨stR z q, hw, ?_⟩
 conv => whnf
 refine ⟨_, addK [] false q.name q.type (by simp), ?_⟩
 conv => whnf
 rw [lenE]
 refine ab (fun hd => ?_) (fun hd => ?_) <;> (rw [hd]; conv => whnf)
 . rw [if_pos hd] at hr; subst hr
   exact ae rfl rfl
 rw [if_neg (by rw [hd]; simp)] at hr
 refine ⟨stR z q, ah.keep ⟨⟨rfl, rfl⟩, ⟨rfl, rfl⟩, ⟨rfl, rfl⟩, trivial⟩ ⟨⟨rfl, rfl⟩, ⟨rfl, rfl⟩, ⟨rfl, rfl⟩, trivial⟩, ?_⟩
 conv => whnf
 refine ⟨_, addK [] false q.name 3 (by simp), ?_⟩
 conv => whnf
 rw [lenE]
 refine ab (fun ha => ?_) (fun ha => ?_) <;> (rw [ha]; conv => whnf)
 . refine ab (fun h8 => ?_) (fun h8 => ?_) <;> (rw [h8]; conv => whnf)
   . rw [if_pos (by rw [ha, h8]; rfl)] at hr; subst hr; exact ae rfl rfl
   . rw [if_neg (by rw [ha, h8]; simp)] at hr
     exact pt z q hf hv hq hu r hr _ (ah.keep ⟨⟨rfl, rfl⟩, ⟨rfl, rfl⟩, ⟨rfl, rfl⟩, trivial⟩ ⟨⟨rfl, rfl⟩, ⟨rfl, rfl⟩, ⟨rfl, rfl⟩, trivial⟩)
 . rw [if_neg (by rw [ha]; simp)] at hr
   exact pt z q hf hv hq hu r hr _ (ah.keep ⟨⟨rfl, rfl⟩, ⟨rfl, rfl⟩, ⟨rfl, rfl⟩, trivial⟩ ⟨⟨rfl, rfl⟩, ⟨rfl, rfl⟩, ⟨rfl, rfl⟩, trivial⟩)
theorem Cb (z : aq) (q : ax) (hf : dj z = true) : NQ.Fn cx 75 [.agg (aA z), .agg (bA q)] (.tuple [.agg ((cR (jE z q).1).map .d), .d (.int .i64 (jE z q).2)]) [] := by
 show NQ.Fn cxR _ _ _ _
 refine cM fzR tyR yC Tryz.func75 (by kernel_rfl) rfl (Nat.le_of_ble_eq_true rfl) ?_
 conv => whnf
 obtain ⟨f1, f2⟩ := cA hf
 have hz5 : z.sets.length <= 100000 := by omega
 have addK : ∀ (l : List Signed) (fl : Bool) (n : Bs) (t : Int), l.length <= 100000 -> FnR cxR 121 true 63 5 (l.map ag) fl [.agg (aA z), .str n, .int .i64 t] ((aH l z ⟨n, t⟩).map ag) := fun l fl n t hl => fQ (cx := cx) (cx' := cxR) rfl rfl (kG l fl z n t hl hz5)
 have len1 : ∀ n t, (aH [] z ⟨n, t⟩).length <= 1 := fun n t => gh [] z ⟨n, t⟩
 have lenE : ∀ n t, (((aH [] z ⟨n, t⟩).map ag).length : Int) = ((aH [] z ⟨n, t⟩).length : Int) := fun n t => by rw [List.length_map]
 (refine ⟨_, _, wj z hz5, ?_⟩; conv => whnf)
 (refine ⟨_, _, wi q, ?_⟩; conv => whnf)
 have bad : (!aQ z || !aP q) = true -> jE z q = (dX, 1) := fun h => by unfold jE; rw [if_pos h]
 refine ab (fun hv => ?_) (fun hv => ?_) <;> (rw [hv]; conv => whnf)
 . exact ae rfl (by rw [bad (by rw [hv]; rfl)]; rfl)
 refine ab (fun hq => ?_) (fun hq => ?_) <;> (rw [hq]; conv => whnf)
 . exact ae rfl (by rw [bad (by rw [hq]; simp)]; rfl)
 have hvq : (!aQ z || !aP q) = false := by rw [hv, hq]; rfl
 have hv : aQ z = true := by simpa using hv
 have hq : aP q = true := by simpa using hq
 have ho := aS hv
 have hqn : af q.name = true := by unfold aP at hq; simp only [Bool.and_eq_true] at hq; exact hq.1.1
 have covK : ∀ (l : List Signed) (fl : Bool) (n : Bs), l.length <= 100000 -> af n = true -> FnR cxR 122 true 63 5 (l.map ag) fl [.agg (aA z), .str n] ((aX l z n).map ag) := fun l fl n hl hn => fQ (cx := cx) (cx' := cxR) rfl rfl (lC l fl z n hl hz5 ho.name hn)
 (refine ⟨_, _, j4 q.name z.apex (bj hqn) (bj ho.apex), ?_⟩; conv => whnf)
 refine ab (fun hu => ?_) (fun hu => ?_) <;> (rw [hu]; conv => whnf)
 . exact ae rfl (by unfold jE; rw [if_neg (by simp [hvq]), if_pos hu]; rfl)
 have hun : (!ao q.name z.apex) = false := hu
 have hu : ao q.name z.apex = true := by simpa using hu
 (refine ⟨_, _, EX z q.name hz5 ho.name hqn, ?_⟩; conv => whnf)
 have base : jE z q = if (!(aK z q.name == []) && (!(aK z q.name == q.name) || !dI q)) = true then (iZ z (aK z q.name), 0)
     else if decide (((aH [] z q).length : Int) > 0) = true then (⟨1, aH [] z q, []⟩, 0)
     else if (decide (((aH [] z ⟨q.name, 3⟩).length : Int) > 0) && (q.type != 8)) = true then (⟨3, aH [] z ⟨q.name, 3⟩, []⟩, 0)
     else if bF z q.name = true then (⟨5, aX (aH [] z ⟨z.apex, 4⟩) z q.name, []⟩, 0)
     else if (!((bB ([42] :: az (bT z q.name))).2 == 0)) = true then (⟨6, aX (aH [] z ⟨z.apex, 4⟩) z q.name, []⟩, 0)
     else let w := (bB ([42] :: az (bT z q.name))).1
     if decide (((aH [] z ⟨w, q.type⟩).length : Int) > 0) = true then (⟨2, aX (aH [] z ⟨w, q.type⟩) z q.name, []⟩, 0)
     else if (decide (((aH [] z ⟨w, 3⟩).length : Int) > 0) && (q.type != 8)) = true then (⟨3, aX (aH [] z ⟨w, 3⟩) z q.name, []⟩, 0)
     else if bF z w = true then (⟨5, aX (aX (aH [] z ⟨z.apex, 4⟩) z q.name) z w, []⟩, 0)
     else (⟨6, aX (aX (aH [] z ⟨z.apex, 4⟩) z q.name) z w, []⟩, 0) := by unfold jE; rw [if_neg (by simp [hvq]), if_neg (by simp [hun])]
 have ref : aK z q.name ≠ [] -> NQ.Fn cxR 120 [.agg (aA z), .str (aK z q.name)] (.agg ((cR (iZ z (aK z q.name))).map .d)) [] := fun hne => by
  obtain ⟨c1, c2⟩ := nn ho hne
  exact DR z (aK z q.name) (by omega) c1 c2 (A1 ho hf)
 have done : ∀ (b : Bool), (!(aK z q.name == []) && (!(aK z q.name == q.name) || !dI q)) = b -> b = true -> jE z q = (iZ z (aK z q.name), 0) := fun b h1 h2 => by rw [base, if_pos (by rw [h1, h2])]
 have hval := ow.1 hv
 have hex : bF z z.apex = true := l9 hval.start
 have hcl : af (bT z q.name) = true := po hqn
 repeat' (first
  | (refine ab (fun h => ?_) (fun h => ?_) <;> (rw [h]; conv => whnf))
  | (refine ⟨_, _, ref (C9 (by assumption)), ?_⟩
     conv => whnf
     have e0 : (!(aK z q.name == [])) = true := by assumption
     have e1 : (!(aK z q.name == []) && (!(aK z q.name == q.name) || !dI q)) = true := by (unfold dI; simp only [*, if_true, if_false, Bool.false_eq_true, Bool.not_true, Bool.not_false, Bool.not_not, Bool.true_or, Bool.or_true, Bool.false_or, Bool.or_false, Bool.and_true, Bool.true_and, Bool.false_and, Bool.and_false])
     exact ae rfl (by rw [done _ e1 rfl]; rfl))
  | fail)
 all_goals
  have hno : (!(aK z q.name == []) && (!(aK z q.name == q.name) || !dI q)) = false := by
   unfold dI
   first
    | (have e0 : (!(aK z q.name == [])) = true := by assumption
       simp only [*, if_true, if_false, Bool.false_eq_true, Bool.not_true, Bool.not_false, Bool.not_not, Bool.true_or, Bool.or_true, Bool.false_or, Bool.or_false, Bool.and_true, Bool.true_and, Bool.false_and, Bool.and_false]; done)
    | (have e0 : (!(aK z q.name == [])) = false := by assumption
       simp only [*, if_true, if_false, Bool.false_eq_true, Bool.not_true, Bool.not_false, Bool.not_not, Bool.true_or, Bool.or_true, Bool.false_or, Bool.or_false, Bool.and_true, Bool.true_and, Bool.false_and, Bool.and_false]; done)
  exact yR z q hf hv hq hu hno _ rfl _ (ah.keep ⟨⟨rfl, rfl⟩, ⟨rfl, rfl⟩, ⟨rfl, rfl⟩, trivial⟩ ⟨⟨rfl, rfl⟩, ⟨rfl, rfl⟩, ⟨rfl, rfl⟩, trivial⟩)
end Go.Proofs.YtnbnldnfkikakaaGreatDoor

set_option maxRecDepth 100000
namespace NP
open NQ Go
def eo (sets : List Signed) (l : List Signed) (p : Int) : List Signed :=
 if decide (p < 0) = true then l else match sets[p.toNat]? with | some s => if bl l (qOf s) = true then l else l ++ [s] | none => l
def CE (sets l : List Signed) (seen : List Int) : Prop := ∀ (k : Nat) s, sets[k]? = some s -> bl l (qOf s) = seen.contains (k : Int)
theorem wa {sets : List Signed} (hr : RP sets) {i j : Nat} {a b : Signed} (ha : sets[i]? = some a) (hb : sets[j]? = some b) (h : a.place = b.place) : i = j := by
 have hp := List.pairwise_iff_getElem.1 hr
 obtain ⟨hi, e1⟩ := List.getElem?_eq_some_iff.1 ha
 obtain ⟨hj, e2⟩ := List.getElem?_eq_some_iff.1 hb
 rcases Nat.lt_trichotomy i j with hlt | heq | hlt
 . exact absurd h (by have := hp i j hi hj hlt; rw [e1, e2] at this; exact im this)
 . exact heq
 . exact absurd h.symm (by have := hp j i hj hi hlt; rw [e1, e2] at this; exact im this)
theorem jK {sets : List Signed} (hr : RP sets) : ∀ (ps : List Int) (l : List Signed) (seen : List Int), (∀ p ∈ ps, p < sets.length) -> CE sets l seen -> ps.foldl (eo sets) l = l ++ bd sets seen ps
 | [], l, seen, _, _ => by simp [bd]
 | p :: ps, l, seen, hp, hs => by
  have hps : ∀ q ∈ ps, q < sets.length := fun q hq => hp q (List.mem_cons_of_mem _ hq)
  rw [List.foldl_cons, bd]
  by_cases hneg : p < 0
  . have e : eo sets l p = l := by unfold eo; rw [if_pos (by simpa using hneg)]
    rw [e, if_pos (by simp [hneg])]
    refine jK hr ps l _ hps fun k s hk => ?_
    rw [hs k s hk, Bool.eq_iff_iff, List.contains_iff_mem, List.contains_iff_mem, List.mem_append]
    refine ⟨.inl, fun h => h.elim id fun h => ?_⟩
    simp at h; omega
  . have hplt := hp p (List.mem_cons_self ..)
    obtain ⟨s, hsp⟩ : ∃ s, sets[p.toNat]? = some s := ⟨_, List.getElem?_eq_getElem (by omega)⟩
    have hpn : ((p.toNat : Nat) : Int) = p := by omega
    have hin := hs p.toNat s hsp
    rw [hpn] at hin
    cases hc : seen.contains p with
    | true =>
     rw [hc] at hin
     have e : eo sets l p = l := by unfold eo; rw [if_neg (by simpa using hneg), hsp]; simp only [hin, if_true]
     rw [e, if_pos (by simp [hc])]
     refine jK hr ps l _ hps fun k t hk => ?_
     rw [hs k t hk, Bool.eq_iff_iff, List.contains_iff_mem, List.contains_iff_mem, List.mem_append]
     refine ⟨.inl, fun h => h.elim id fun h => ?_⟩
     simp at h; rw [h]; exact List.contains_iff_mem.1 hc
    | false =>
     rw [hc] at hin
     have e : eo sets l p = l ++ [s] := by unfold eo; rw [if_neg (by simpa using hneg), hsp]; simp only [hin, if_false, Bool.false_eq_true]
     rw [e, if_neg (by simp [hneg, hc]), hsp]
     rw [jK hr ps (l ++ [s]) (seen ++ [p]) hps fun k t hk => ?_]
     . simp
     . have : bl (l ++ [s]) (qOf t) = (bl l (qOf t) || is (qOf t) s) := by unfold bl; rw [List.any_append]; simp
       rw [this, hs k t hk, Bool.eq_iff_iff, Bool.or_eq_true, List.contains_iff_mem, List.contains_iff_mem, List.mem_append]
       refine or_congr Iff.rfl ?_
       rw [ju, List.mem_singleton]
       constructor
       . intro h
         have := wa hr hsp hk h
         omega
       . intro h
         have : k = p.toNat := by omega
         subst this; rw [hsp] at hk; cases hk; rfl
theorem pa (sets : List Signed) : CE sets [] [] := fun k s _ => rfl
theorem dO {z : aq} (l : List Signed) (q : ax) : aH l z q = eo z.sets l (atI z.sets q) := by
 unfold aH eo
 by_cases h : decide (atI z.sets q < 0) = true
 . rw [if_pos h, if_pos h]
 . rw [if_neg h, if_neg h]
   have hh : bl z.sets q = true := by
    have := eY z.sets q
    cases hc : bl z.sets q with
    | true => rfl
    | false => rw [hc] at this; exact absurd this h
   obtain ⟨k, s, h1, h2, h3⟩ := j8 hh
   have hk : (atI z.sets q).toNat = k := by rw [h1]; rfl
   rw [hk, h2]
   simp only
   have : bl l q = bl l (qOf s) := by
    unfold bl
    congr 1
    funext x
    rw [Bool.eq_iff_iff, ju, ju]
    have : (qOf s).place = q.place := h3
    rw [this]
   rw [this]
theorem tM (l : List Signed) (n : Bs) : ∀ k : Nat, k <= kr l n -> (∀ i s, i < k -> l[i]? = some s -> aw s.set.name n <= 0) -> (jh l n k = none /\ ib l k = -1) \/ ∃ i s, l[i]? = some s /\ jh l n k = some s /\ ib l k = ((i : Nat) : Int) /\ s.set.type = 8
 | 0, _, _ => .inl ⟨rfl, rfl⟩
 | k + 1, hk, h => by
  have hlt : k < l.length := by have := kT l n; omega
  obtain ⟨s, hs⟩ : ∃ s, l[k]? = some s := ⟨_, List.getElem?_eq_getElem hlt⟩
  have hc := h k s (by omega) hs
  simp only [jh, ib, hs]
  by_cases ht : s.set.type = 8
  . refine .inr ⟨k, s, hs, ?_, ?_, ht⟩
    . rw [if_pos (by unfold kf; simp [ht, hc])]
    . simp [ht]
  . have e1 : kf n s = false := by unfold kf; simp [ht]
    rw [if_neg (by simp [e1])]
    have e2 : (s.set.type == 8) = false := by simpa using ht
    have := tM l n k (by omega) fun i s hi hs => h i s (by omega) hs
    simpa [e2, ht] using this
theorem vD (l : List Signed) (n : Bs) : ∀ k j : Nat, j <= k -> (∀ i s, j <= i -> i < k -> l[i]? = some s -> 0 < aw s.set.name n) -> jh l n k = jh l n j
 | 0, j, hj, _ => by obtain rfl : j = 0 := by omega
                     rfl
 | k + 1, j, hj, h => by
  by_cases e : j = k + 1
  . rw [e]
  . rw [jh]
    have := vD l n k j (by omega) fun i s h1 h2 hs => h i s h1 (by omega) hs
    cases hs : l[k]? with
    | none => exact this
    | some s =>
     have hc := h k s (by omega) (by omega) hs
     have e1 : kf n s = false := by unfold kf; rw [decide_eq_false (by omega)]; simp
     simp only
     rw [if_neg (by simp [e1])]
     exact this
theorem C6 {z : aq} (hr : cu z.sets) (n : Bs) : (jh z.sets n z.sets.length = none /\ cS z.sets n = -1) \/ ∃ i s, z.sets[i]? = some s /\ jh z.sets n z.sets.length = some s /\ cS z.sets n = ((i : Nat) : Int) /\ s.set.type = 8 := by
 have hp := jX hr
 rw [vD z.sets n z.sets.length (kr z.sets n) (kT _ _) fun i s h1 _ hs => (oV hp hs).1 h1]
 exact tM z.sets n _ (Nat.le_refl _) fun i s hi hs => by
  have : ¬ (kr z.sets n <= i) := by omega
  rw [oV hp hs] at this; omega
theorem js {z : aq} (hr : cu z.sets) (l : List Signed) (n : Bs) : aX l z n = eo z.sets l (cS z.sets n) := by
 unfold aX
 rcases C6 hr n with ⟨h1, h2⟩ | ⟨i, s, hs, h1, h2, ht⟩
 . rw [h1, h2]; rfl
 . rw [h1, h2]
   simp only
   rw [dO]
   have hmem := List.mem_of_getElem? hs
   have hq : (⟨s.set.name, 8⟩ : ax).place = s.place := by unfold ax.place Signed.place; simp [ht]
   have hh : bl z.sets ⟨s.set.name, 8⟩ = true := gR.2 ⟨s, hmem, hq.symm⟩
   obtain ⟨k, t, h3, h4, h5⟩ := j8 hh
   have := wa hr.pw h4 hs (h5.trans hq)
   subst this
   rw [h3]
theorem G8 {a b : Bs} (h : aw a b <= 0) : 0 <= aw b a := by have := aV.anti a b; omega
theorem EK {a b : Bs} (h : 0 <= aw a b) : aw b a <= 0 := by have := aV.anti a b; omega
theorem qH {s n : Bs} (hs : af s = true) (hn : af n = true) : (aL s n).1 = ao s n := by unfold aL; rw [if_pos ⟨hs, hn⟩]
theorem fk {z : aq} (ho : Ordered z) {n : Bs} (hn : af n = true) : exB z.sets n = bF z n := by
 have hp := jX ho.rising
 have ge : ∀ s ∈ z.sets, ao s.set.name n = true -> ∃ i, z.sets[i]? = some s /\ lV z.sets n <= i := fun s hs hu => by
  obtain ⟨i, hi⟩ := List.getElem?_of_mem hs
  exact ⟨i, hi, (oW hp hi).2 (G8 (kW hu))⟩
 unfold exB bF
 cases hg : z.sets[lV z.sets n]? with
 | none =>
  symm
  rw [List.any_eq_false]
  intro s hs hu
  obtain ⟨i, hi, hle⟩ := ge s hs hu
  have h1 := (List.getElem?_eq_some_iff.1 hi).1
  have h2 := List.getElem?_eq_none_iff.1 hg
  omega
 | some t =>
  have htm := List.mem_of_getElem? hg
  simp only
  rw [qH (ho.name t htm) hn]
  cases hu : ao t.set.name n with
  | true => symm; exact List.any_eq_true.2 ⟨t, htm, hu⟩
  | false =>
   symm
   rw [List.any_eq_false]
   intro s hs hus
   obtain ⟨i, hi, hle⟩ := ge s hs hus
   have hnt : aw n t.set.name <= 0 := EK ((oW hp hg).1 (Nat.le_refl _))
   have hts : aw t.set.name s.set.name <= 0 := by
    rcases Nat.lt_or_eq_of_le hle with hlt | heq
    . obtain ⟨h1, e1⟩ := List.getElem?_eq_some_iff.1 hg
      obtain ⟨h2, e2⟩ := List.getElem?_eq_some_iff.1 hi
      have := List.pairwise_iff_getElem.1 hp _ _ h1 h2 hlt
      rwa [e1, e2] at this
    . rw [<- heq, hg] at hi; cases hi
      have := (aV.zero t.set.name t.set.name).2 rfl
      omega
   have := kX (eE n) hus hnt hts
   rw [hu] at this; cases this
theorem xJ {z : aq} (ho : Ordered z) (hex : bF z z.apex = true) : ∀ (f : Nat) (n : Bs), af n = true -> ao n z.apex = true -> kK z.apex z.sets f n = sB z f n
 | 0, n, _, _ => rfl
 | f + 1, n, hn, hu => by
  rw [kK, sB]
  by_cases hne : n = z.apex
  . subst hne; rw [if_pos rfl, if_pos hex]
  . rw [if_neg hne, fk ho hn]
    cases he : bF z n with
    | true => rw [if_pos rfl, if_pos rfl]
    | false =>
     rw [if_neg (by simp), if_neg (by simp)]
     obtain ⟨_, k2, _⟩ := kZ hn hu hne
     exact xJ ho hex f (cd n) (eM hn) k2
theorem tS {z : aq} {v : View} (hv : v.sets = z.sets) (hc : af v.cut = true) : ∀ (h : List Datum) (l : List Signed), (∀ d ∈ h, af d.text = true) -> gz z v.cut l h = (cN v h).foldl (eo z.sets) l
 | [], l, _ => by simp [gz, cN]
 | d :: h, l, hd => by
  have e1 : gz z v.cut l (d :: h) = gz z v.cut (if ao d.text v.cut = true then aH l z ⟨d.text, 1⟩ else l) h := rfl
  have e2 : cN v (d :: h) = (if (aL d.text v.cut).1 = true then [atI v.sets ⟨d.text, 1⟩] else []) ++ cN v h := by unfold cN; rw [List.flatMap_cons]
  rw [e1, e2, List.foldl_append, qH (hd d (List.mem_cons_self ..)) hc, tS hv hc h _ fun x hx => hd x (List.mem_cons_of_mem _ hx)]
  congr 1
  split
  . rw [dO, hv]; rfl
  . rfl
theorem Hq {v : View} {l : List Datum} {q : Int} (hq : q ∈ cN v l) : q < v.sets.length := by
 unfold cN at hq
 obtain ⟨x, _, hx⟩ := List.mem_flatMap.1 hq
 split at hx
 . simp at hx; rw [hx]; exact bX _ _
 . cases hx
theorem qt {v : View} {q : Int} (hq : q ∈ cY v) : q < v.sets.length := by
 unfold cY at hq
 rcases List.mem_append.1 hq with hq | hq
 . simp at hq
   rcases hq with rfl | rfl
   . exact bX _ _
   . unfold fq; split <;> exact bX _ _
 . exact Hq hq
theorem F2 {z : aq} {v : View} (ho : Ordered z) (hf : dj z = true) (hs : v.sets = z.sets) (hc : af v.cut = true) (hcut : bl z.sets ⟨v.cut, 2⟩ = true) : (⟨4, bd v.sets [] (cY v), v.cut⟩ : Ans) = iZ z v.cut := by
 obtain ⟨s0, hs0, hp0, e0⟩ := sw hcut
 have hr0 : rl0 z v.cut = [s0] := e0
 have e2 : rl2 z v.cut = eo z.sets (eo z.sets [] (cK v)) (fq v) := by
  have e3 : eo z.sets [] (cK v) = [s0] := by unfold cK; rw [hs, <- dO]; exact e0
  rw [e3]
  unfold rl2
  rw [hr0]
  have hr1 : rl1 z v.cut = eo z.sets [s0] (atI z.sets ⟨v.cut, 6⟩) := by unfold rl1; rw [hr0, dO]
  by_cases hneg : atI z.sets ⟨v.cut, 6⟩ < 0
  . have : rl1 z v.cut = [s0] := by rw [hr1]; unfold eo; rw [if_pos (by simpa using hneg)]
    rw [this, if_pos (by simp), dO]
    unfold fq; rw [hs, if_pos (by simpa using hneg)]
  . obtain ⟨k, s, h1, h2, h3⟩ := j8 (l := z.sets) (q := ⟨v.cut, 6⟩) (by
     have := eY z.sets ⟨v.cut, 6⟩
     cases hc : bl z.sets ⟨v.cut, 6⟩ with
     | true => rfl
     | false => rw [hc] at this; simp at this; omega)
    have hno : bl [s0] (qOf s) = false := by
     unfold bl
     simp only [List.any_cons, List.any_nil, Bool.or_false]
     rw [<- Bool.not_eq_true, ju]
     intro e
     have e' : s0.place = s.place := e
     rw [hp0, h3] at e'
     have := congrArg Prod.snd e'
     simp [ax.place] at this
    have : rl1 z v.cut = [s0] ++ [s] := by rw [hr1, h1]; unfold eo; rw [if_neg (by simp)]; simp only [show ((k : Nat) : Int).toNat = k by simp, h2, hno]; rfl
    rw [this, if_neg (by simp), <- this, hr1]
    unfold fq; rw [hs, if_neg (by simpa using hneg)]
 have hho : oa (rl0 z v.cut) = gD v := by
  have h1 : cK v = atI z.sets ⟨v.cut, 2⟩ := by unfold cK; rw [hs]
  obtain ⟨k, s, a1, a2, a3⟩ := j8 hcut
  have : s = s0 := RP.uniq ho.rising.pw (List.mem_of_getElem? a2) hs0 (a3.trans hp0.symm)
  subst this
  unfold oa gD
  rw [hr0, h1, a1, hs]
  simp [a2]
 have hdv : ∀ d ∈ gD v, af d.text = true := by
  rw [<- hho]; unfold oa; rw [hr0]
  exact ((A1 ho hf) s0 hs0).2 (congrArg Prod.snd hp0)
 unfold iZ
 congr 1
 rw [hho, e2, tS hs hc _ _ hdv, hs]
 have := jK ho.rising.pw (cY v) [] [] (fun p hp => by rw [<- hs]; exact qt hp) (pa _)
 rw [List.nil_append] at this
 rw [<- this]
 unfold cY
 rw [List.foldl_append]
 rfl
theorem GK {z : aq} (ho : Ordered z) (p : Int) (hp : p < z.sets.length) : bd z.sets [] [p] = eo z.sets [] p := by
 have := jK ho.rising.pw [p] [] [] (fun q hq => by simp at hq; rw [hq]; exact hp) (pa _)
 rw [List.nil_append] at this
 rw [<- this]; rfl
theorem xd {z : aq} (ho : Ordered z) (p q : Int) (hp : p < z.sets.length) (hq : q < z.sets.length) : bd z.sets [] [p, q] = eo z.sets (eo z.sets [] p) q := by
 have := jK ho.rising.pw [p, q] [] [] (fun r hr => by simp at hr; rcases hr with rfl | rfl <;> assumption) (pa _)
 rw [List.nil_append] at this
 rw [<- this]; rfl
theorem GL {z : aq} (ho : Ordered z) (p q r : Int) (hp : p < z.sets.length) (hq : q < z.sets.length) (hr : r < z.sets.length) : bd z.sets [] [p, q, r] = eo z.sets (eo z.sets (eo z.sets [] p) q) r := by
 have := jK ho.rising.pw [p, q, r] [] [] (fun x hx => by simp at hx; rcases hx with rfl | rfl | rfl <;> assumption) (pa _)
 rw [List.nil_append] at this
 rw [<- this]; rfl
theorem qS {z : aq} {q : ax} : decide (((aH [] z q).length : Int) > 0) = decide (atI z.sets q >= 0) := by
 have h := eY z.sets q
 cases hh : bl z.sets q with
 | true =>
  obtain ⟨s, _, _, e⟩ := sw hh
  rw [e]
  rw [hh] at h
  have : ¬ atI z.sets q < 0 := by simpa using h
  rw [decide_eq_true (by simp), decide_eq_true (by omega)]
 | false =>
  rw [CH hh]
  rw [hh] at h
  have : atI z.sets q < 0 := by simpa using h
  rw [decide_eq_false (by simp), decide_eq_false (by omega)]
theorem CT {z : aq} (ho : Ordered z) (t : Int) : atI z.sets ⟨[], t⟩ < 0 := by
 have h := eY z.sets ⟨[], t⟩
 cases hh : bl z.sets ⟨[], t⟩ with
 | true =>
  obtain ⟨s, hs, hp⟩ := gR.1 hh
  have hv := ho.name s hs
  have : s.set.name = [] := congrArg Prod.fst hp
  rw [this] at hv; exact absurd rfl (fX hv)
 | false => rw [hh] at h; simpa using h
theorem Ie {z : aq} (hf : dj z = true) (q : ax) : jE z q = bg z q := by
 unfold jE
 have hty : (decide (q.type < 1) || decide (q.type > 8)) = true -> bg z q = (dX, 1) := fun h => by unfold bg; rw [if_pos h]
 have hcu : ∀ c b e, (decide (q.type < 1) || decide (q.type > 8)) = false -> cT z q.name = (c, b, e) -> bg z q = if (e == 20) = true then (⟨7, [], []⟩, 0) else if (e != 0) = true then (dX, e) else (cH (iI z q c b), 0) := fun c b e h hc => by
  unfold bg; rw [if_neg (by simp [h]), hc]
 cases hv : aQ z with
 | false =>
  rw [if_pos (by simp)]
  have hc : cT z q.name = ([], false, 1) := by unfold cT; rw [hv]; simp
  cases ht : (decide (q.type < 1) || decide (q.type > 8)) with
  | true => rw [hty ht]
  | false => rw [hcu _ _ _ ht hc]; rfl
 | true =>
 have ho := aS hv
 cases hqn : af q.name with
 | false =>
  have hqb : aP q = false := by unfold aP; rw [hqn]; rfl
  rw [if_pos (by rw [hqb]; rfl)]
  have hc : cT z q.name = ([], false, 1) := by unfold cT; rw [hqn]; simp
  cases ht : (decide (q.type < 1) || decide (q.type > 8)) with
  | true => rw [hty ht]
  | false => rw [hcu _ _ _ ht hc]; rfl
 | true =>
 cases ht : (decide (q.type < 1) || decide (q.type > 8)) with
 | true =>
  have hqb : aP q = false := by
   unfold aP; rw [hqn]
   simp at ht ⊢; omega
  rw [if_pos (by rw [hqb]; rfl), hty ht]
 | false =>
 have hqb : aP q = true := by
  unfold aP; rw [hqn]
  simp at ht ⊢; omega
 rw [if_neg (by rw [hqb]; simp)]
 cases hu : ao q.name z.apex with
 | false =>
  rw [if_pos (by simp)]
  have hc : cT z q.name = ([], false, 20) := by unfold cT; rw [hqn, hv, qH hqn ho.apex, hu]; simp
  rw [hcu _ _ _ ht hc]; rfl
 | true =>
 rw [if_neg (by simp)]
 have hc := Az hv hqn hu
 have hR : bg z q = (cH (iI z q (aK z q.name) (!(aK z q.name == []))), 0) := by rw [hcu _ _ _ ht hc]; rfl
 rw [hR]
 have hval := ow.1 hv
 have hex : bF z z.apex = true := l9 hval.start
 generalize hcc : aK z q.name = c
 have hcOk : c ≠ [] -> af c = true /\ bl z.sets ⟨c, 2⟩ = true := fun h => hcc ▸ nn ho (hcc ▸ h)
 dsimp only
 generalize hvv : iI z q c (!(c == [])) = v
 have hsets : v.sets = z.sets := by rw [<- hvv]; rfl
 have hvq : v.q = q := by rw [<- hvv]; rfl
 have hvc : v.cut = c := by rw [<- hvv]; rfl
 have hva : v.apex = z.apex := by rw [<- hvv]; rfl
 have hwild : v.bx = [] := by rw [<- hvv]; rfl
 have hrB : cE v = (!(c == []) && (!(c == q.name) || !dI q)) := by
  rw [<- hvv]
  unfold cE pG dI iI
  dsimp only
  rw [Bool.beq_comm (a := q.name) (b := c)]
  cases (c == []) <;> cases (c == q.name) <;> simp
 unfold cH
 rw [hrB]
 cases hr : (!(c == []) && (!(c == q.name) || !dI q)) with
 | true =>
  simp only [↓reduceIte]
  have hne : c ≠ [] := by intro e; rw [e] at hr; simp at hr
  obtain ⟨h1, h2⟩ := hcOk hne
  have := F2 (v := v) ho hf hsets (by rw [hvc]; exact h1) (by rw [hvc]; exact h2)
  unfold gL
  rw [hrB, hr, if_pos rfl, this, hvc]
 | false =>
 simp only [Bool.false_eq_true, ↓reduceIte]
 have hd : l6 v = decide (((aH [] z q).length : Int) > 0) := by unfold l6; rw [qS, hsets, hvq]
 rw [hd]
 cases hdd : decide (((aH [] z q).length : Int) > 0) with
 | true =>
  simp only [↓reduceIte]
  unfold qW
  rw [hsets, hvq, GK ho _ (bX _ _), dO]
 | false =>
 simp only [Bool.false_eq_true, ↓reduceIte]
 have ha : jq v = (decide (((aH [] z ⟨q.name, 3⟩).length : Int) > 0) && (q.type != 8)) := by unfold jq; rw [qS, hsets, hvq]
 rw [ha]
 cases haa : (decide (((aH [] z ⟨q.name, 3⟩).length : Int) > 0) && (q.type != 8)) with
 | true =>
  simp only [↓reduceIte]
  unfold tA
  rw [hsets, hvq, GK ho _ (bX _ _), dO]
 | false =>
 simp only [Bool.false_eq_true, ↓reduceIte]
 have hproof : bd z.sets [] [cB v, cS v.sets v.q.name] = aX (aH [] z ⟨z.apex, 4⟩) z q.name := by
  rw [xd ho _ _ (by unfold cB; rw [hsets]; exact bX _ _) (by rw [hsets]; exact cC _ _), js ho.rising, dO]
  unfold cB
  rw [hsets, hvq, hva]
 rw [hsets, hvq, fk ho hqn]
 cases he : bF z q.name with
 | true =>
  simp only [↓reduceIte]
  unfold iX
  rw [hsets, hvq, fk ho hqn, he, if_pos rfl]
  rw [hsets, hvq] at hproof
  rw [<- hproof]
 | false =>
 simp only [Bool.false_eq_true, ↓reduceIte]
 have hcl : jr v.apex v.sets v.q.name = bT z q.name := by
  unfold jr bT
  rw [hsets, hvq, hva]
  exact xJ ho hex _ _ hqn hu
 have hnd : aJ v = { v with bx := eT (bT z q.name) } := by
  unfold aJ
  rw [<- hcl, hsets, hvq, fk ho hqn, he, if_neg (by simp)]
 rw [hnd]
 generalize hst : eT (bT z q.name) = w
 have hu2 : ({ v with bx := w } : View).sets = z.sets := hsets
 cases hj : ((bB ([42] :: az (bT z q.name))).2 == 0) with
 | false =>
  have hw : w = [] := by rw [<- hst]; exact tk _ (by simpa using hj)
  rw [if_pos (by simp)]
  have h1 : kD { v with bx := w } = false := by
   unfold kD
   rw [hw]
   have := CT ho v.q.type
   rw [<- hsets] at this
   exact decide_eq_false (by show ¬ (atI v.sets ⟨[], v.q.type⟩ >= 0); omega)
  have h2 : dz { v with bx := w } = false := by
   unfold dz
   rw [hw]
   have := CT ho 3
   rw [<- hsets] at this
   rw [decide_eq_false (show ¬ (atI v.sets ⟨[], 3⟩ >= 0) by omega)]; rfl
  have h3 : ff { v with bx := w } = false := by unfold ff; rw [hw]; rfl
  rw [h1, h2, h3]
  simp only [Bool.false_eq_true, if_false]
  have : gV { v with bx := w } = ⟨6, bd v.sets [] [cB v, cS v.sets v.q.name, -1], []⟩ := by
   unfold gV
   rw [if_pos hw]; rfl
  rw [this, hsets]
  rw [hsets] at hproof
  have hp3 : bd z.sets [] [cB v, cS z.sets v.q.name, -1] = bd z.sets [] [cB v, cS z.sets v.q.name] := by
   rw [GL ho _ _ _ (by unfold cB; rw [hsets]; exact bX _ _) (cC _ _) (by omega), xd ho _ _ (by unfold cB; rw [hsets]; exact bX _ _) (cC _ _)]
   unfold eo; rw [if_pos (by decide)]
  rw [hp3, hproof]
 | true =>
  rw [if_neg (by simp)]
  have hw : (bB ([42] :: az (bT z q.name))).1 = w := hst
  have hwv : af w = true := by
   rw [<- hst]
   unfold eT
   have hj0 : (bB ([42] :: az (bT z q.name))).2 = 0 := by simpa using hj
   unfold bB at hj0 ⊢
   split
   . rename_i h; exact (rf h).1
   . rename_i h; rw [if_neg h] at hj0; simp at hj0
  have hwne := fX hwv
  rw [hw]
  (try dsimp only)
  have h1 : kD { v with bx := w } = decide (((aH [] z ⟨w, q.type⟩).length : Int) > 0) := by
   unfold kD; rw [qS]; show decide (atI v.sets ⟨w, v.q.type⟩ >= 0) = _; rw [hsets, hvq]
  have h2 : dz { v with bx := w } = (decide (((aH [] z ⟨w, 3⟩).length : Int) > 0) && (q.type != 8)) := by
   unfold dz; rw [qS]; show (decide (atI v.sets ⟨w, 3⟩ >= 0) && (v.q.type != 8)) = _; rw [hsets, hvq]
  have h3 : ff { v with bx := w } = bF z w := by
   unfold ff
   show (!(w == []) && exB v.sets w) = _
   rw [hsets, fk ho hwv]
   have : (w == []) = false := by simpa using hwne
   rw [this]; rfl
  rw [h1, h2, h3]
  cases hdw : decide (((aH [] z ⟨w, q.type⟩).length : Int) > 0) with
  | true =>
   simp only [↓reduceIte]
   show ((⟨2, aX (aH [] z ⟨w, q.type⟩) z q.name, []⟩ : Ans), (0 : Int)) = (⟨2, bd v.sets [] [atI v.sets ⟨w, v.q.type⟩, cS v.sets v.q.name], []⟩, 0)
   rw [hsets, hvq, xd ho _ _ (bX _ _) (cC _ _), js ho.rising, dO]
  | false =>
  simp only [Bool.false_eq_true, ↓reduceIte]
  cases haw : (decide (((aH [] z ⟨w, 3⟩).length : Int) > 0) && (q.type != 8)) with
  | true =>
   simp only [↓reduceIte]
   show ((⟨3, aX (aH [] z ⟨w, 3⟩) z q.name, []⟩ : Ans), (0 : Int)) = (⟨3, bd v.sets [] [atI v.sets ⟨w, 3⟩, cS v.sets v.q.name], []⟩, 0)
   rw [hsets, hvq, xd ho _ _ (bX _ _) (cC _ _), js ho.rising, dO]
  | false =>
  simp only [Bool.false_eq_true, ↓reduceIte]
  have hp3 : aX (aX (aH [] z ⟨z.apex, 4⟩) z q.name) z w = bd v.sets [] [cB v, cS v.sets v.q.name, cS v.sets w] := by
   rw [hsets, GL ho _ _ _ (by unfold cB; rw [hsets]; exact bX _ _) (cC _ _) (cC _ _), js ho.rising, js ho.rising, dO]
   unfold cB
   rw [hsets, hvq, hva]
  cases hew : bF z w with
  | true =>
   simp only [Bool.false_eq_true, ↓reduceIte]; rw [hp3]
   unfold jf
   rw [h3, hew, if_pos rfl]
   rfl
  | false =>
   simp only [Bool.false_eq_true, ↓reduceIte]; rw [hp3]
   show _ = (gV { v with bx := w }, (0 : Int))
   unfold gV
   rw [if_neg hwne]
   rfl
end NP

set_option maxRecDepth 100000
namespace NP
open NQ Go
theorem yN (l : List Signed) : ∀ (ps seen : List Int), (bd l seen ps).length <= ps.length
 | [], _ => by simp [bd]
 | p :: t, seen => by
  have := yN l t (seen ++ [p])
  rw [bd]
  split
  . rw [List.length_cons]; omega
  . rw [List.length_cons, List.length_cons]; omega
theorem oU {l : List Signed} : ∀ {ps seen : List Int}, (∀ p ∈ ps, p < l.length) -> ∀ s ∈ bd l seen ps, ∃ p ∈ ps, p ∉ seen /\ 0 <= p /\ l[p.toNat]? = some s
 | [], _, _, s, hs => by simp [bd] at hs
 | p :: t, seen, hp, s, hs => by
  rw [bd] at hs
  split at hs
  . obtain ⟨q, h1, h2, h3⟩ := oU (fun q hq => hp q (List.mem_cons_of_mem _ hq)) s hs
    exact ⟨q, List.mem_cons_of_mem _ h1, fun e => h2 (List.mem_append.2 (.inl e)), h3⟩
  . rename_i hc
    simp only [Bool.or_eq_true, decide_eq_true_eq, List.contains_iff_mem, not_or] at hc
    have hlt := hp p (List.mem_cons_self ..)
    obtain ⟨x, hx⟩ : ∃ x, l[p.toNat]? = some x := ⟨_, List.getElem?_eq_getElem (by omega)⟩
    rw [hx] at hs
    rcases List.mem_cons.1 hs with e | hs
    . have e : s = x := e
      subst e
      exact ⟨p, List.mem_cons_self .., hc.2, by omega, hx⟩
    . obtain ⟨q, h1, h2, h3⟩ := oU (fun q hq => hp q (List.mem_cons_of_mem _ hq)) s hs
      exact ⟨q, List.mem_cons_of_mem _ h1, fun e => h2 (List.mem_append.2 (.inl e)), h3⟩
theorem ll (v : View) : (aJ v).sets = v.sets := by unfold aJ; split <;> rfl
theorem zw {v : View} (hd : (gD v).length <= 900) : ∃ ps : List Int, (∀ p ∈ ps, p < v.sets.length) /\ ps.length <= 1000 /\ (cH v).sets = bd v.sets [] ps := by
 have e := ll v
 have hl := nu v (gD v)
 unfold cH
 split
 . rename_i h
   refine ⟨cY v, fun p hp => qt hp, ?_, ?_⟩
   . unfold cY; simp; omega
   . unfold gL; rw [if_pos h]
 split
 . exact ⟨_, by simp [bX], by simp, rfl⟩
 split
 . exact ⟨_, by simp [bX], by simp, rfl⟩
 split
 . rename_i h
   refine ⟨[cB v, cS v.sets v.q.name], by simp [cB, bX, cC], by simp, ?_⟩
   unfold iX; rw [if_pos h]
 split
 . refine ⟨[_, _], ?_, by simp, by unfold pj; rw [e]⟩
   intro p hp; simp only [List.mem_cons, List.not_mem_nil, or_false] at hp
   rcases hp with rfl | rfl
   . exact bX _ _
   . exact cC _ _
 split
 . refine ⟨[_, _], ?_, by simp, by unfold kC; rw [e]⟩
   intro p hp; simp only [List.mem_cons, List.not_mem_nil, or_false] at hp
   rcases hp with rfl | rfl
   . exact bX _ _
   . exact cC _ _
 split
 . rename_i h
   refine ⟨[_, _, _], ?_, by simp, by unfold jf; rw [if_pos h, e]⟩
   intro p hp; simp only [List.mem_cons, List.not_mem_nil, or_false] at hp
   rcases hp with rfl | rfl | rfl
   . unfold cB; rw [e]; exact bX _ _
   . exact cC _ _
   . exact cC _ _
 . refine ⟨[_, _, _], ?_, by simp, by unfold gV; rw [e]⟩
   intro p hp; simp only [List.mem_cons, List.not_mem_nil, or_false] at hp
   have hpos : (0 : Int) <= v.sets.length := by omega
   rcases hp with rfl | rfl | rfl
   . unfold cB; rw [e]; exact bX _ _
   . exact cC _ _
   . split
     . omega
     . exact cC _ _
theorem tB {z : aq} (hf : dj z = true) (q : ax) : ∃ ps : List Int, (∀ p ∈ ps, p < z.sets.length) /\ ps.length <= 1000 /\ (bg z q).1.sets = bd z.sets [] ps := by
 have none : ∃ ps : List Int, (∀ p ∈ ps, p < z.sets.length) /\ ps.length <= 1000 /\ ([] : List Signed) = bd z.sets [] ps := ⟨[], by simp, by simp, rfl⟩
 unfold bg
 split
 . exact none
 split
 . exact none
 split
 . exact none
 . refine zw (v := iI z q _ _) ?_
   unfold gD
   split
   . rename_i s hs
     have := ((cA hf).2 s (List.mem_of_getElem? hs)).1
     omega
   . simp
theorem GW {z : aq} (hf : dj z = true) (q : ax) : ∀ s ∈ (bg z q).1.sets, s ∈ z.sets := by
 obtain ⟨ps, h1, _, h3⟩ := tB hf q
 rw [h3]
 intro s hs
 obtain ⟨p, _, _, _, h⟩ := oU h1 s hs
 exact List.mem_of_getElem? h
theorem Ao {z : aq} (hf : dj z = true) (q : ax) : (bg z q).1.sets.length <= 1000 := by
 obtain ⟨ps, h1, h2, h3⟩ := tB hf q
 rw [h3]
 have := yN z.sets ps []
 omega
end NP

set_option maxRecDepth 100000
namespace NP
open NQ Go
structure Use (z : aq) (q : ax) : Prop where
 few : dj z = true
 val : aQ z = true
 quest : aP q = true
 under : ao q.name z.apex = true
theorem Use.name {z : aq} {q : ax} (u : Use z q) : af q.name = true := by have := u.quest; unfold aP at this; simp only [Bool.and_eq_true] at this; exact this.1.1
theorem Use.ord {z : aq} {q : ax} (u : Use z q) : Ordered z := aS u.val
def vw (z : aq) (q : ax) : View := iI z q (aK z q.name) (!(aK z q.name == []))
theorem Use.cut {z : aq} {q : ax} (u : Use z q) : cT z q.name = (aK z q.name, !(aK z q.name == []), 0) := Az u.val u.name u.under
theorem Use.ans {z : aq} {q : ax} (u : Use z q) : bg z q = (cH (vw z q), 0) := by
 have hq := u.quest
 unfold aP at hq
 simp only [Bool.and_eq_true, decide_eq_true_eq] at hq
 unfold bg
 rw [if_neg (by simp; omega), u.cut]
 rfl
theorem tr (z : aq) (q : ax) : cE (vw z q) = (!(aK z q.name == []) && !((aK z q.name == q.name) && dI q)) := by
 unfold cE pG dI vw iI
 dsimp only
 rw [Bool.beq_comm (a := q.name) (b := aK z q.name)]
 cases (aK z q.name == []) <;> cases (aK z q.name == q.name) <;> simp
theorem pF (v : View) : (cH v).kind = if cE v = true then 4 else if l6 v = true then 1 else if jq v = true then 3 else if exB v.sets v.q.name = true then 5
 else if kD (aJ v) = true then 2 else if dz (aJ v) = true then 3 else if ff (aJ v) = true then 5 else 6 := by
 unfold cH
 split
 . rename_i h; unfold gL; rw [if_pos h]
 split
 . rfl
 split
 . rfl
 split
 . rename_i h; unfold iX; rw [if_pos h]
 split
 . rfl
 split
 . rfl
 split
 . rename_i h; unfold jf; rw [if_pos h]
 . rfl
theorem E6 (z : aq) (q : ax) : l6 (vw z q) = bl z.sets q := by
 have h := eY z.sets q
 show decide (atI z.sets q >= 0) = _
 cases hh : bl z.sets q with
 | true =>
  rw [hh] at h
  have : ¬ atI z.sets q < 0 := by simpa using h
  exact decide_eq_true (by omega)
 | false =>
  rw [hh] at h
  have : atI z.sets q < 0 := by simpa using h
  exact decide_eq_false (by omega)
theorem FX {z : aq} (ho : Ordered z) {q : ax} {s : Signed} (hs : s ∈ z.sets) (hp : s.place = q.place) : bd z.sets [] [atI z.sets q] = [s] := by
 obtain ⟨k, t, h1, h2, h3⟩ := j8 (gR.2 ⟨s, hs, hp⟩)
 have : t = s := RP.uniq ho.rising.pw (List.mem_of_getElem? h2) hs (h3.trans hp.symm)
 subst this
 rw [h1, bd]
 simp [h2, bd]
theorem Use.data {z : aq} {q : ax} (u : Use z q) (hr : cE (vw z q) = false) {s : Signed} (hs : s ∈ z.sets) (hp : s.place = q.place) : (bg z q).1 = ⟨1, [s], []⟩ := by
 rw [u.ans]
 show cH (vw z q) = _
 unfold cH
 rw [if_neg (by simp [hr]), if_pos (by rw [E6]; exact gR.2 ⟨s, hs, hp⟩)]
 unfold qW
 have := FX u.ord hs hp
 show (⟨1, bd z.sets [] [atI z.sets q], []⟩ : Ans) = _
 rw [this]
theorem Use.find {z : aq} {q : ax} (u : Use z q) : ∃ s has, qZ z q = (s, has, 0) /\ has = bl z.sets q /\ (has = true -> s ∈ z.sets /\ s.place = q.place) := by
 cases hh : bl z.sets q with
 | true =>
  obtain ⟨s, h1, h2, h3⟩ := Hj u.val u.quest hh
  exact ⟨s, true, h3, rfl, fun _ => ⟨h1, h2⟩⟩
 | false => exact ⟨_, false, Fl u.val u.quest hh, rfl, fun h => by cases h⟩
end NP

set_option maxRecDepth 100000
namespace NP
open NQ Go
theorem Ew {v : View} (h : cE v = false) : (cH v).cut = [] := by
 unfold cH
 rw [if_neg (by simp [h])]
 repeat' split
 all_goals first | rfl | skip
 . unfold iX; split <;> rfl
 . unfold jf; split <;> rfl
theorem Use.H6 {z : aq} {q : ax} (u : Use z q) (hr : cE (vw z q) = false) : ((bg z q).1.kind == 4) = false /\ (bg z q).1.cut = [] := by
 rw [u.ans]
 refine ⟨?_, Ew hr⟩
 show ((cH (vw z q)).kind == 4) = false
 rw [pF, hr]
 simp only [Bool.false_eq_true, ↓reduceIte]
 repeat' split
 all_goals rfl
theorem Use.Jy {z : aq} {q : ax} (u : Use z q) (hr : cE (vw z q) = true) : ∃ s0 R, s0 ∈ z.sets /\ s0.place = (aK z q.name, 2) /\ (bg z q).1 = ⟨4, s0 :: R, aK z q.name⟩ /\
 ∀ s ∈ R, (s.set.type = 6 /\ s.set.name = aK z q.name) \/ (s.set.type = 8 /\ s.set.name = aK z q.name) \/ (s.set.type = 1 /\ aL s.set.name (aK z q.name) = (true, 0) /\ s0.set.data.any (fun d => d.text == s.set.name) = true) := by
 have hne : aK z q.name ≠ [] := by
  intro e; rw [tr, e] at hr; cases hr
 obtain ⟨hcv, hcut⟩ := nn u.ord hne
 have ho := u.ord
 obtain ⟨k, s0, h1, h2, h3⟩ := j8 hcut
 have hm0 := List.mem_of_getElem? h2
 have hserv : cK (vw z q) = ((k : Nat) : Int) := h1
 have hsd : gD (vw z q) = s0.set.data := by
  unfold gD
  rw [hserv]
  show (match z.sets[((k : Nat) : Int).toNat]? with | some s => s.set.data | none => []) = _
  rw [show ((k : Nat) : Int).toNat = k by simp, h2]
 have hlt : ∀ p ∈ cY (vw z q), p < z.sets.length := fun p hp => qt (v := vw z q) hp
 have e1 : bd z.sets [] (cY (vw z q)) = s0 :: bd z.sets [cK (vw z q)] (fq (vw z q) :: cN (vw z q) (gD (vw z q))) := by
  unfold cY
  rw [show [cK (vw z q), fq (vw z q)] ++ cN (vw z q) (gD (vw z q)) = cK (vw z q) :: (fq (vw z q) :: cN (vw z q) (gD (vw z q))) from rfl, bd, if_neg (by rw [hserv]; simp)]
  rw [hserv]
  simp [h2]
 refine ⟨s0, bd z.sets [cK (vw z q)] (fq (vw z q) :: cN (vw z q) (gD (vw z q))), hm0, h3, ?_, fun s hs => ?_⟩
 . rw [u.ans]
   show cH (vw z q) = _
   unfold cH
   rw [if_pos hr]
   unfold gL
   rw [if_pos hr]
   show (⟨4, bd z.sets [] (cY (vw z q)), aK z q.name⟩ : Ans) = _
   rw [e1]
 . obtain ⟨p, hp1, hp2, hp3, hp4⟩ := oU (fun p hp => hlt p (by unfold cY; exact List.mem_cons_of_mem _ hp)) s hs
   have hsm := List.mem_of_getElem? hp4
   have atp : ∀ q' : ax, p = atI z.sets q' -> s.place = q'.place := fun q' e => by
    have hh : bl z.sets q' = true := by
     have := eY z.sets q'
     cases hc : bl z.sets q' with
     | true => rfl
     | false => rw [hc] at this; simp at this; omega
    obtain ⟨j, t, a1, a2, a3⟩ := j8 hh
    rw [a1] at e
    have : p.toNat = j := by omega
    rw [this, a2] at hp4; cases hp4; exact a3
   rcases List.mem_cons.1 hp1 with hp | hp
   . unfold fq at hp
     split at hp
     . have := atp ⟨aK z q.name, 8⟩ hp
       exact .inr (.inl ⟨congrArg Prod.snd this, congrArg Prod.fst this⟩)
     . have := atp ⟨aK z q.name, 6⟩ hp
       exact .inl ⟨congrArg Prod.snd this, congrArg Prod.fst this⟩
   . unfold cN at hp
     obtain ⟨d, hd, hx⟩ := List.mem_flatMap.1 hp
     split at hx
     . rename_i hu
       simp at hx
       have := atp ⟨d.text, 1⟩ hx
       have hn : s.set.name = d.text := congrArg Prod.fst this
       refine .inr (.inr ⟨congrArg Prod.snd this, ?_, ?_⟩)
       . have hv := ho.name s hsm
         have hu' : (aL d.text (aK z q.name)).1 = true := hu
         rw [<- hn] at hu'
         unfold aL at hu' ⊢
         rw [if_pos ⟨hv, hcv⟩] at hu' ⊢
         simp only at hu'
         rw [hu']
       . rw [hsd] at hd
         exact List.any_eq_true.2 ⟨d, hd, by rw [hn]; simp⟩
     . cases hx
end NP

set_option maxRecDepth 100000
namespace NP
open NQ Go
theorem D3 {m : Bs} (h : eT m ≠ []) : cP (eT m) = true := by
 unfold eT at h ⊢
 unfold bB at h ⊢
 split
 . show cP (nameOf ([42] :: az m)) = true
   rw [vU (by simp)]
   cases az m with
   | nil => rfl
   | cons x t => rw [cV _ _ (by simp)]; rfl
 . rename_i hc; rw [if_neg hc] at h; exact absurd rfl h
theorem qN {v : View} (hx : exB v.sets v.q.name = false) : (aJ v).bx = eT (jr v.apex v.sets v.q.name) := by
 unfold aJ; rw [if_neg (by simp [hx])]
theorem Gf (n : Bs) : eT n = [] \/ af (eT n) = true := by
 unfold eT
 unfold bB
 split
 . rename_i h; exact .inr (rf h).1
 . exact .inl rfl
theorem Use.bx {z : aq} {q : ax} (u : Use z q) (hk : (bg z q).1.kind = 2) : cE (vw z q) = false /\ bF z q.name = false /\ ∃ s0 R, (bg z q).1.sets = s0 :: R /\ cP s0.set.name = true /\ s0.set.type = q.type := by
 have ho := u.ord
 rw [u.ans] at hk ⊢
 have hk' : (cH (vw z q)).kind = 2 := hk
 rw [pF] at hk'
 cases hr : cE (vw z q) with
 | true => rw [hr] at hk'; simp at hk'
 | false =>
 cases hd : l6 (vw z q) with
 | true => rw [hr, hd] at hk'; simp at hk'
 | false =>
 cases ha : jq (vw z q) with
 | true => rw [hr, hd, ha] at hk'; simp at hk'
 | false =>
 cases hx : exB (vw z q).sets (vw z q).q.name with
 | true => rw [hr, hd, ha, hx] at hk'; simp at hk'
 | false =>
 cases hw : kD (aJ (vw z q)) with
 | false =>
  rw [hr, hd, ha, hx, hw] at hk'
  simp only [Bool.false_eq_true, ↓reduceIte] at hk'
  exfalso
  revert hk'
  repeat' split
  all_goals omega
 | true =>
 have hx' : bF z q.name = false := by rw [<- fk ho u.name]; exact hx
 refine ⟨rfl, hx', ?_⟩
 have hans : cH (vw z q) = pj (aJ (vw z q)) := by
  unfold cH
  rw [if_neg (by simp [hr]), if_neg (by simp [hd]), if_neg (by simp [ha]), if_neg (by simp [hx]), if_pos hw]
 have hq : (aJ (vw z q)).q = q := by unfold aJ; split <;> rfl
 have hs : (aJ (vw z q)).sets = z.sets := ll _
 have hat : 0 <= atI z.sets ⟨(aJ (vw z q)).bx, q.type⟩ := by
  unfold kD at hw
  rw [hs, hq] at hw
  simpa using hw
 obtain ⟨k, s, h1, h2, h3⟩ := j8 (l := z.sets) (q := ⟨(aJ (vw z q)).bx, q.type⟩) (by
  have := eY z.sets ⟨(aJ (vw z q)).bx, q.type⟩
  cases hh : bl z.sets ⟨(aJ (vw z q)).bx, q.type⟩ with
  | true => rfl
  | false => rw [hh] at this; simp at this; omega)
 have hsn : s.set.name = (aJ (vw z q)).bx := congrArg Prod.fst h3
 have hst : s.set.type = q.type := congrArg Prod.snd h3
 refine ⟨s, bd z.sets ([] ++ [((k : Nat) : Int)]) [cS z.sets q.name], ?_, ?_, hst⟩
 . show (cH (vw z q)).sets = _
   rw [hans]
   unfold pj
   rw [hs, hq, h1]
   show bd z.sets [] [((k : Nat) : Int), cS z.sets q.name] = _
   rw [bd, if_neg (by simp)]
   simp [h2]
 . rw [hsn, qN hx]
   refine D3 ?_
   rw [<- qN hx, <- hsn]
   exact fX (ho.name s (List.mem_of_getElem? h2))
theorem Use.none {z : aq} {q : ax} (u : Use z q) (hk : (bg z q).1.kind = 6) : bF z q.name = false /\ aK z q.name = [] /\ ((aJ (vw z q)).bx = [] \/ bF z (aJ (vw z q)).bx = false) := by
 have ho := u.ord
 rw [u.ans] at hk
 have hk' : (cH (vw z q)).kind = 6 := hk
 rw [pF] at hk'
 cases hr : cE (vw z q) with
 | true => rw [hr] at hk'; simp at hk'
 | false =>
 cases hd : l6 (vw z q) with
 | true => rw [hr, hd] at hk'; simp at hk'
 | false =>
 cases ha : jq (vw z q) with
 | true => rw [hr, hd, ha] at hk'; simp at hk'
 | false =>
 cases hx : exB (vw z q).sets (vw z q).q.name with
 | true => rw [hr, hd, ha, hx] at hk'; simp at hk'
 | false =>
 have hx' : bF z q.name = false := by rw [<- fk ho u.name]; exact hx
 cases hw : kD (aJ (vw z q)) with
 | true => rw [hr, hd, ha, hx, hw] at hk'; simp at hk'
 | false =>
 cases hwa : dz (aJ (vw z q)) with
 | true => rw [hr, hd, ha, hx, hw, hwa] at hk'; simp at hk'
 | false =>
 cases hwn : ff (aJ (vw z q)) with
 | true => rw [hr, hd, ha, hx, hw, hwa, hwn] at hk'; simp at hk'
 | false =>
 refine ⟨hx', ?_, ?_⟩
 . cases hc : (aK z q.name == []) with
   | true => simpa using hc
   | false =>
    have hne : aK z q.name ≠ [] := by simpa using hc
    rw [tr, hc] at hr
    simp only [Bool.not_false, Bool.true_and, Bool.not_eq_false', Bool.and_eq_true, beq_iff_eq] at hr
    obtain ⟨_, h2⟩ := nn ho hne
    have := l9 h2
    rw [hr.1] at this
    rw [hx'] at this; cases this
 . unfold ff at hwn
   rw [ll] at hwn
   cases hw0 : ((aJ (vw z q)).bx == []) with
   | true => exact .inl (by simpa using hw0)
   | false =>
    rw [hw0] at hwn
    have hwne : (aJ (vw z q)).bx ≠ [] := by simpa using hw0
    have hwv : af (aJ (vw z q)).bx = true := by
     rw [qN hx] at hwne ⊢
     have := Gf (jr (vw z q).apex (vw z q).sets (vw z q).q.name)
     exact this.resolve_left hwne
    refine .inr ?_
    rw [<- fk ho hwv]
    have h5 : (!false && exB (vw z q).sets (aJ (vw z q)).bx) = false := hwn
    rw [Bool.not_false, Bool.true_and] at h5
    exact h5
end NP

set_option maxRecDepth 100000
namespace NP
open NQ Go
end NP
namespace Go.Proofs.YtnbnldnfkikakaaGreatDoor
open NQ Go NP Go.RowKit
theorem uq (a b : Ans) (ha : a.sets.length <= 100000) (hs : ∀ s ∈ a.sets, s.set.data.length <= 100000 /\ s.sigs.length <= 100000) : NQ.Fn cx 18 [.agg (cR a), .agg (cR b)] (.d (.bool (decide (a = b)))) [] := by
 refine ar aB mixed Tryz.func18 (by kernel_rfl) rfl (Nat.le_of_ble_eq_true rfl) ?_; conv => whnf
 (refine ⟨_, _, z6 a.sets b.sets ha hs, ?_⟩; conv => whnf)
 refine ab (fun h1 => ?_) (fun h1 => ?_) <;> (rw [h1]; conv => whnf)
 . refine ab (fun h2 => ?_) (fun h2 => ?_) <;> (rw [h2]; conv => whnf)
   . refine ae rfl ?_
     have e1 : a.sets = b.sets := by simpa using h1
     have e2 : a.kind = b.kind := by simpa using h2
     show AV.d (D.bool (a.cut == b.cut)) = _
     congr 2
     obtain ⟨ka, sa, ca⟩ := a
     obtain ⟨kb, sb, cb⟩ := b
     simp only at e1 e2
     subst e1; subst e2
     by_cases e : ca = cb
     . subst e; rw [decide_eq_true rfl]; simp
     . rw [decide_eq_false (fun h => e (by cases h; rfl))]; simpa using e
   . exact ae rfl (jD fun e => by rw [e] at h2; simp at h2)
 . exact ae rfl (jD fun e => by rw [e] at h1; simp at h1)
end Go.Proofs.YtnbnldnfkikakaaGreatDoor
