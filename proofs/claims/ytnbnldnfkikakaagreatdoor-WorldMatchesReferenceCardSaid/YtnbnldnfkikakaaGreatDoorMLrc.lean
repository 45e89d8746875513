/-
  Texts of the proof of the law WorldMatchesReference, merged in build order.
-/
import Derived.Test.YtnbnldnfkikakaaGreatDoorLrbM
import Derived.Test.YtnbnldnfkikakaaGreatDoorMLcv
import Derived.Test.YtnbnldnfkikakaaGreatDoorMVa
import Derived.Test.YtnbnldnfkikakaaGreatDoorMCa
set_option linter.all false
set_option maxRecDepth 100000
namespace NP
open NQ Go
def oi (l : List Signed) : List Datum := match l[0]? with | some s => s.set.data | none => []
def gq (z : ao) (cut : Bs) (l : List Signed) (h : List Datum) : List Signed := h.foldl (fun l d => if an d.text cut = true then aH l z ⟨d.text, 1⟩ else l) l
def rl0 (z : ao) (cut : Bs) : List Signed := aH [] z ⟨cut, 2⟩
def rl1 (z : ao) (cut : Bs) : List Signed := aH (rl0 z cut) z ⟨cut, 6⟩
def rl2 (z : ao) (cut : Bs) : List Signed := if (((rl1 z cut).length : Int) == ((rl0 z cut).length : Int)) = true then aH (rl1 z cut) z ⟨cut, 8⟩ else rl1 z cut
def iQ (z : ao) (cut : Bs) : Ans := ⟨4, gq z cut (rl2 z cut) (oi (rl0 z cut)), cut⟩
theorem tH (z : ao) (cut : Bs) (l : List Signed) (h : List Datum) (d : Datum) : gq z cut l (h ++ [d]) = if an d.text cut = true then aH (gq z cut l h) z ⟨d.text, 1⟩ else gq z cut l h := by
 unfold gq; rw [List.foldl_append]; rfl
theorem pQ (z : ao) (cut : Bs) : ∀ (h : List Datum) (l : List Signed), (gq z cut l h).length <= l.length + h.length
 | [], l => by simp [gq]
 | d :: h, l => by
  have e : gq z cut l (d :: h) = gq z cut (if an d.text cut = true then aH l z ⟨d.text, 1⟩ else l) h := rfl
  rw [e]
  have := pQ z cut h (if an d.text cut = true then aH l z ⟨d.text, 1⟩ else l)
  have h2 := gH l z ⟨d.text, 1⟩
  rw [List.length_cons]
  split at this <;> rename_i hc <;> simp only [hc, if_true, if_false, Bool.false_eq_true] <;> omega
theorem CS {s : gI} (h : df s = true) (ht : s.type = 2) : ∀ d ∈ s.data, af d.text = true := fun d hd => by
 unfold df at h
 simp only [Bool.and_eq_true, List.all_eq_true, List.mem_range] at h
 obtain ⟨i, hi⟩ := List.getElem?_of_mem hd
 have hlt := (List.getElem?_eq_some_iff.1 hi).1
 have := h.2 i hlt
 obtain ⟨p, hp⟩ : ∃ p, s.data[i - 1]? = some p := ⟨_, List.getElem?_eq_getElem (by omega)⟩
 rw [sV hi hp, ht] at this
 have hr : dH 2 = ⟨1, 0, 0, 0, 0, false, false, false⟩ := rfl
 rw [hr] at this
 simp only [lP, dO, iq, Bool.not_eq_true', Bool.or_eq_false_iff, Bool.not_eq_false', Bool.and_eq_true, if_true] at this
 exact this.1.2.1
theorem Al {z : ao} (ho : Ordered z) (hf : cN z = true) : ∀ s ∈ z.sets, s.set.data.length <= 900 /\ (s.set.type = 2 -> ∀ d ∈ s.set.data, af d.text = true) := fun s hs =>
 ⟨by have := ((bP hf).2 s hs).1; omega, fun ht => CS (ho.set s hs) ht⟩
theorem nz {z : ao} {n : Bs} (ho : Ordered z) (h : aN z n ≠ []) : af (aN z n) = true /\ bl z.sets ⟨aN z n, 2⟩ = true := by
 unfold aN at h ⊢
 cases hf : (bI z.apex z.sets).find? fun c => an n c with
 | none => rw [hf] at h; exact absurd rfl h
 | some c =>
  have hm := List.mem_of_find?_eq_some hf
  obtain ⟨_, _, h3, _, h5⟩ := DN ho hm
  exact ⟨h3, h5⟩
theorem mh {z : ao} {q : av} (h : bl z.sets q = true) : bF z q.name = true := by
 obtain ⟨s, hs, hp⟩ := gY.1 h
 have : s.set.name = q.name := congrArg Prod.fst hp
 exact List.any_eq_true.2 ⟨s, hs, by rw [this]; exact er _⟩
theorem Cf (l : List Signed) (z : ao) (n : Bs) : (aY l z n).length <= l.length + 1 := by
 unfold aY; split
 . exact gH _ _ _
 . omega
theorem po {z : ao} {n : Bs} (hn : af n = true) : af (bU z n) = true := by
 unfold bU
 generalize (az n).length + 1 = f
 induction f generalizing n with
 | zero => exact hn
 | succ f ih =>
  rw [s4]
  split
  . exact hn
  . exact ih (eL hn)
theorem DM {c : Bs} (h : (!(c == [])) = true) : c ≠ [] := by intro e; rw [e] at h; cases h
theorem s8 {z : ao} {q : av} (h : bl z.sets q = true) : ∃ s, s ∈ z.sets /\ s.place = q.place /\ aH [] z q = [s] := by
 obtain ⟨k, s, h1, h2, h3⟩ := kB h
 refine ⟨s, List.mem_of_getElem? h2, h3, ?_⟩
 unfold aH
 rw [h1, if_neg (by simp), if_neg (by simp [bl])]
 simp [h2]
theorem Ec {z : ao} {q : av} (h : bl z.sets q = false) : aH [] z q = [] := by
 unfold aH
 rw [fc, h]; rfl
def dM (q : av) : Bool := q.type == 6 || q.type == 8
def jB (z : ao) (q : av) : Ans × Int :=
 if (!aR z || !aL q) = true then (dF, 1) else if (!an q.name z.apex) = true then (⟨7, [], []⟩, 0)
 else if (!(aN z q.name == []) && (!(aN z q.name == q.name) || !dM q)) = true then (iQ z (aN z q.name), 0)
 else if decide (((aH [] z q).length : Int) > 0) = true then (⟨1, aH [] z q, []⟩, 0)
 else if (decide (((aH [] z ⟨q.name, 3⟩).length : Int) > 0) && (q.type != 8)) = true then (⟨3, aH [] z ⟨q.name, 3⟩, []⟩, 0)
 else if bF z q.name = true then (⟨5, aY (aH [] z ⟨z.apex, 4⟩) z q.name, []⟩, 0)
 else if (!((bC ([42] :: az (bU z q.name))).2 == 0)) = true then (⟨6, aY (aH [] z ⟨z.apex, 4⟩) z q.name, []⟩, 0)
 else let w := (bC ([42] :: az (bU z q.name))).1
 if decide (((aH [] z ⟨w, q.type⟩).length : Int) > 0) = true then (⟨2, aY (aH [] z ⟨w, q.type⟩) z q.name, []⟩, 0)
 else if (decide (((aH [] z ⟨w, 3⟩).length : Int) > 0) && (q.type != 8)) = true then (⟨3, aY (aH [] z ⟨w, 3⟩) z q.name, []⟩, 0)
 else if bF z w = true then (⟨5, aY (aY (aH [] z ⟨z.apex, 4⟩) z q.name) z w, []⟩, 0)
 else (⟨6, aY (aY (aH [] z ⟨z.apex, 4⟩) z q.name) z w, []⟩, 0)
end NP
namespace Go.Proofs.YtnbnldnfkikakaaGreatDoor
open NQ Go NP Go.RowKit
theorem CY (z : ao) (cut : Bs) (hz : z.sets.length <= 10000) (hc : af cut = true) (hcut : bl z.sets ⟨cut, 2⟩ = true) (hd : ∀ s ∈ z.sets, s.set.data.length <= 900 /\ (s.set.type = 2 -> ∀ d ∈ s.set.data, af d.text = true)) :
 NQ.Fn cx 120 [.agg (aA z), .str cut] (.agg ((cB (iQ z cut)).map .d)) [] := by
 show NQ.Fn cxR _ _ _ _
 refine cH (fun | 11 => [66666] | _ => []) tyR x7 Tryz.func120 (by kernel_rfl) rfl (Nat.le_of_ble_eq_true rfl) ?_
 conv => whnf
 have addK : ∀ (l : List Signed) (fl : Bool) (n : Bs) (t : Int), l.length <= 100000 -> FnR cxR 121 true 63 5 (l.map ag) fl [.agg (aA z), .str n, .int .i64 t] ((aH l z ⟨n, t⟩).map ag) := fun l fl n t hl => fU (cx := cx) (cx' := cxR) rfl rfl (kY l fl z n t hl (by omega))
 obtain ⟨s0, hs0, hp0, e0⟩ := s8 hcut
 have hr0 : rl0 z cut = [s0] := e0
 have hdat := (hd s0 hs0).1
 have hdn := (hd s0 hs0).2 (by have := congrArg Prod.snd hp0; exact this)
 refine ⟨_, addK [] false cut 2 (by simp), ?_⟩
 conv => whnf
 rw [e0]
 refine ⟨by decide, by simp, ?_⟩
 conv => whnf
 refine ⟨_, rfl, ?_⟩
 conv => whnf
 refine ⟨_, addK [s0] _ cut 6 (by simp), ?_⟩
 conv => whnf
 have hr1 : rl1 z cut = aH [s0] z ⟨cut, 6⟩ := by unfold rl1; rw [hr0]
 have hl1 := gH [s0] z ⟨cut, 6⟩
 have hl2 := gH (aH [s0] z ⟨cut, 6⟩) z ⟨cut, 8⟩
 have hlist : (((aH [s0] z ⟨cut, 6⟩).map ag).length : Int) = ((rl1 z cut).length : Int) := by rw [List.length_map, hr1]
 have hlist0 : (([s0].map ag).length : Int) = ((rl0 z cut).length : Int) := by rw [List.length_map, hr0]
 rw [hlist, hlist0]
 have hho : oi (rl0 z cut) = s0.set.data := by unfold oi; rw [hr0]; rfl
 have h2len : (rl2 z cut).length <= 3 := by
  unfold rl2; rw [hr1]
  have h1' : [s0].length = 1 := rfl
  split <;> omega
 refine ab (fun heq => ?_) (fun heq => ?_) <;> (rw [heq]; conv => whnf)
 . have hr2 : rl2 z cut = aH (aH [s0] z ⟨cut, 6⟩) z ⟨cut, 8⟩ := by unfold rl2; rw [if_pos heq, hr1]
   refine ⟨_, addK (aH [s0] z ⟨cut, 6⟩) _ cut 8 (by simp at hl1; omega), ?_⟩
   conv => whnf
   (refine ⟨Nat, fun k => ⟨[(1, .d (.str cut)), (2, .ptr 2 0), (4, .ptr 4 0), (5, .own 11), (6, .d (.slice 3 (s0.set.data.map bB))), (8, .d (.int .i64 k))], [(2, .box ((aA z).map .d)), (4, .box [.d (.int .i64 0), .nil 5, .d (.str [])]), (11, .row 63 5 ((gq z cut (rl2 z cut) (s0.set.data.take k)).map ag))]⟩, fun k => k <= s0.set.data.length, fun k => s0.set.data.length - k, ⟨0, by omega, ah.keep ⟨⟨rfl, rfl⟩, ⟨rfl, rfl⟩, ⟨rfl, rfl⟩, ⟨rfl, rfl⟩, ⟨rfl, rfl⟩, ⟨rfl, rfl⟩, trivial⟩ ⟨⟨rfl, rfl⟩, ⟨rfl, rfl⟩, ⟨by (rw [hr2]; rfl), rfl⟩, trivial⟩⟩, fun k hk => ?_⟩; (conv => whnf); refine ab (fun h1 => ?_) (fun h1 => ?_) <;> (rw [h1]; conv => whnf))
   . have hlt : k < s0.set.data.length := by simp at h1; omega
     obtain ⟨d, hdk⟩ : ∃ d, s0.set.data[k]? = some d := ⟨_, List.getElem?_eq_getElem hlt⟩
     have hdv := hdn d (List.mem_of_getElem? hdk)
     have hsn := tH z cut (rl2 z cut) (s0.set.data.take k) d
     rw [<- bw hdk] at hsn
     have hrl := pQ z cut (s0.set.data.take k) (rl2 z cut)
     rw [List.length_take] at hrl
     refine ⟨Int.natCast_nonneg k, bB d, au hdk, ?_⟩
     conv => whnf
     (refine ⟨_, _, ju d.text cut (aS hdv) (aS hc), ?_⟩; conv => whnf)
     refine ab (fun hu => ?_) (fun hu => ?_) <;> (rw [hu]; conv => whnf)
     . rw [if_pos hu] at hsn
       (refine ⟨(by kernel_rfl : hZ _ = true), ?_⟩; conv => whnf)
       refine ⟨Int.natCast_nonneg k, bB d, au hdk, ?_⟩
       conv => whnf
       refine ⟨_, addK _ _ d.text 1 (by omega), ?_⟩
       conv => whnf
       (repeat (refine ⟨by kernel_rfl, ?_⟩)); conv => whnf
       exact ⟨k + 1, hlt, by (show s0.set.data.length - (k + 1) < s0.set.data.length - k; omega), ah.keep ⟨⟨rfl, rfl⟩, ⟨rfl, rfl⟩, ⟨rfl, rfl⟩, ⟨rfl, rfl⟩, ⟨rfl, rfl⟩, ⟨aj (by omega), rfl⟩, trivial⟩ ⟨⟨rfl, rfl⟩, ⟨rfl, rfl⟩, ⟨by (rw [hsn]; rfl), rfl⟩, trivial⟩⟩
     . rw [if_neg (by simp [hu])] at hsn
       exact ⟨k + 1, hlt, by (show s0.set.data.length - (k + 1) < s0.set.data.length - k; omega), ah.keep ⟨⟨rfl, rfl⟩, ⟨rfl, rfl⟩, ⟨rfl, rfl⟩, ⟨rfl, rfl⟩, ⟨rfl, rfl⟩, ⟨aj (by omega), rfl⟩, trivial⟩ ⟨⟨rfl, rfl⟩, ⟨rfl, rfl⟩, ⟨by (rw [hsn]; rfl), rfl⟩, trivial⟩⟩
   . obtain rfl : k = s0.set.data.length := by simp at h1; omega
     refine ae rfl ?_
     unfold iQ
     rw [hho, List.take_length]
     rfl
 . have hr2 : rl2 z cut = aH [s0] z ⟨cut, 6⟩ := by unfold rl2; rw [if_neg (by simp [heq]), hr1]
   (refine ⟨Nat, fun k => ⟨[(1, .d (.str cut)), (2, .ptr 2 0), (4, .ptr 4 0), (5, .own 11), (6, .d (.slice 3 (s0.set.data.map bB))), (8, .d (.int .i64 k))], [(2, .box ((aA z).map .d)), (4, .box [.d (.int .i64 0), .nil 5, .d (.str [])]), (11, .row 63 5 ((gq z cut (rl2 z cut) (s0.set.data.take k)).map ag))]⟩, fun k => k <= s0.set.data.length, fun k => s0.set.data.length - k, ⟨0, by omega, ah.keep ⟨⟨rfl, rfl⟩, ⟨rfl, rfl⟩, ⟨rfl, rfl⟩, ⟨rfl, rfl⟩, ⟨rfl, rfl⟩, ⟨rfl, rfl⟩, trivial⟩ ⟨⟨rfl, rfl⟩, ⟨rfl, rfl⟩, ⟨by (rw [hr2]; rfl), rfl⟩, trivial⟩⟩, fun k hk => ?_⟩; (conv => whnf); refine ab (fun h1 => ?_) (fun h1 => ?_) <;> (rw [h1]; conv => whnf))
   . have hlt : k < s0.set.data.length := by simp at h1; omega
     obtain ⟨d, hdk⟩ : ∃ d, s0.set.data[k]? = some d := ⟨_, List.getElem?_eq_getElem hlt⟩
     have hdv := hdn d (List.mem_of_getElem? hdk)
     have hsn := tH z cut (rl2 z cut) (s0.set.data.take k) d
     rw [<- bw hdk] at hsn
     have hrl := pQ z cut (s0.set.data.take k) (rl2 z cut)
     rw [List.length_take] at hrl
     refine ⟨Int.natCast_nonneg k, bB d, au hdk, ?_⟩
     conv => whnf
     (refine ⟨_, _, ju d.text cut (aS hdv) (aS hc), ?_⟩; conv => whnf)
     refine ab (fun hu => ?_) (fun hu => ?_) <;> (rw [hu]; conv => whnf)
     . rw [if_pos hu] at hsn
       (refine ⟨(by kernel_rfl : hZ _ = true), ?_⟩; conv => whnf)
       refine ⟨Int.natCast_nonneg k, bB d, au hdk, ?_⟩
       conv => whnf
       refine ⟨_, addK _ _ d.text 1 (by omega), ?_⟩
       conv => whnf
       (repeat (refine ⟨by kernel_rfl, ?_⟩)); conv => whnf
       exact ⟨k + 1, hlt, by (show s0.set.data.length - (k + 1) < s0.set.data.length - k; omega), ah.keep ⟨⟨rfl, rfl⟩, ⟨rfl, rfl⟩, ⟨rfl, rfl⟩, ⟨rfl, rfl⟩, ⟨rfl, rfl⟩, ⟨aj (by omega), rfl⟩, trivial⟩ ⟨⟨rfl, rfl⟩, ⟨rfl, rfl⟩, ⟨by (rw [hsn]; rfl), rfl⟩, trivial⟩⟩
     . rw [if_neg (by simp [hu])] at hsn
       exact ⟨k + 1, hlt, by (show s0.set.data.length - (k + 1) < s0.set.data.length - k; omega), ah.keep ⟨⟨rfl, rfl⟩, ⟨rfl, rfl⟩, ⟨rfl, rfl⟩, ⟨rfl, rfl⟩, ⟨rfl, rfl⟩, ⟨aj (by omega), rfl⟩, trivial⟩ ⟨⟨rfl, rfl⟩, ⟨rfl, rfl⟩, ⟨by (rw [hsn]; rfl), rfl⟩, trivial⟩⟩
   . obtain rfl : k = s0.set.data.length := by simp at h1; omega
     refine ae rfl ?_
     unfold iQ
     rw [hho, List.take_length]
     rfl
def fzR : Nat -> List Nat
 | 11 => [55555]
 | 14 => [55555]
 | 17 => [66666, 55555]
 | 18 => [55555]
 | 20 => [55555]
 | 23 => [55555]
 | 26 => [55555]
 | 29 => [55555]
 | _ => []
def stR (z : ao) (q : av) : St := ⟨[(2, .ptr 2 0), (3, .ptr 3 0), (4, .ptr 4 0)], [(2, .box ((aA z).map .d)), (3, .box ((bq q).map .d)), (4, .box [.d (.int .i64 0), .nil 5, .d (.str [])])]⟩
def xB (z : ao) (q : av) (w : Bs) (proof : List Signed) : St := ⟨[(2, .ptr 2 0), (3, .ptr 3 0), (4, .ptr 4 0), (11, .own 87), (12, .d (.str w))], [(2, .box ((aA z).map .d)), (3, .box ((bq q).map .d)), (4, .box [.d (.int .i64 0), .nil 5, .d (.str [])]), (87, .row 63 5 (proof.map ag))]⟩
def IF (z : ao) (q : av) (proof : List Signed) : St := ⟨[(2, .ptr 2 0), (3, .ptr 3 0), (4, .ptr 4 0), (11, .own 87)], [(2, .box ((aA z).map .d)), (3, .box ((bq q).map .d)), (4, .box [.d (.int .i64 0), .nil 5, .d (.str [])]), (87, .row 63 5 (proof.map ag))]⟩
theorem ph (z : ao) (q : av) (hf : cN z = true) (hv : aR z = true) (hq : aL q = true) (w : Bs) (hwv : af w = true) (proof : List Signed) (hpl : proof.length <= 1000) (r : Ans × Int) (hr : (if bF z w = true then ((⟨5, aY proof z w, []⟩ : Ans), (0 : Int)) else (⟨6, aY proof z w, []⟩, 0)) = r) (st : St) (hw : ah cxR st (xB z q w proof)) :
 vc cxR Tryz.f75.ntmps fzR (oz 20 ((Tryz.f75.body).getD .skip)) (fnQ cxR Tryz.f75.results.toList (.tuple [.agg ((cB r.1).map .d), .d (.int .i64 r.2)]) []) st := by
 obtain ⟨f1, f2⟩ := bP hf
 have hz5 : z.sets.length <= 100000 := by omega
 have addK : ∀ (l : List Signed) (fl : Bool) (n : Bs) (t : Int), l.length <= 100000 -> FnR cxR 121 true 63 5 (l.map ag) fl [.agg (aA z), .str n, .int .i64 t] ((aH l z ⟨n, t⟩).map ag) := fun l fl n t hl => fU (cx := cx) (cx' := cxR) rfl rfl (kY l fl z n t hl hz5)
 have lenE : ∀ n t, (((aH [] z ⟨n, t⟩).map ag).length : Int) = ((aH [] z ⟨n, t⟩).length : Int) := fun n t => by rw [List.length_map]
 have len1 : ∀ n t, (aH [] z ⟨n, t⟩).length <= 100 := fun n t => by have := gH [] z ⟨n, t⟩; simp at this; omega
 have ho := aP hv
 have hqn : af q.name = true := by unfold aL at hq; simp only [Bool.and_eq_true] at hq; exact hq.1.1
 have covK : ∀ (l : List Signed) (fl : Bool) (n : Bs), l.length <= 100000 -> af n = true -> FnR cxR 122 true 63 5 (l.map ag) fl [.agg (aA z), .str n] ((aY l z n).map ag) := fun l fl n hl hn => fU (cx := cx) (cx' := cxR) rfl rfl (lQ l fl z n hl hz5 ho.name hn)
 conv => whnf
 refine ⟨xB z q w proof, hw, ?_⟩
 conv => whnf
 refine ⟨_, covK proof _ w (by omega) hwv, ?_⟩
 conv => whnf
 (refine ⟨_, _, oW z w hz5 ho.name hwv, ?_⟩; conv => whnf)
 refine ab (fun hew => ?_) (fun hew => ?_) <;> (rw [hew]; conv => whnf)
 . rw [if_pos hew] at hr; subst hr; exact ae rfl rfl
 . rw [if_neg (by rw [hew]; simp)] at hr; subst hr; exact ae rfl rfl
theorem wO (z : ao) (q : av) (hf : cN z = true) (hv : aR z = true) (hq : aL q = true) (w : Bs) (hwv : af w = true) (proof : List Signed) (hpl : proof.length <= 1000) (r : Ans × Int) (hr : (if decide (((aH [] z ⟨w, q.type⟩).length : Int) > 0) = true then ((⟨2, aY (aH [] z ⟨w, q.type⟩) z q.name, []⟩ : Ans), (0 : Int))
      else if (decide (((aH [] z ⟨w, 3⟩).length : Int) > 0) && (q.type != 8)) = true then (⟨3, aY (aH [] z ⟨w, 3⟩) z q.name, []⟩, 0)
      else if bF z w = true then (⟨5, aY proof z w, []⟩, 0) else (⟨6, aY proof z w, []⟩, 0)) = r) (st : St) (hw : ah cxR st (xB z q w proof)) :
 vc cxR Tryz.f75.ntmps fzR (oz 16 ((Tryz.f75.body).getD .skip)) (fnQ cxR Tryz.f75.results.toList (.tuple [.agg ((cB r.1).map .d), .d (.int .i64 r.2)]) []) st := by
 obtain ⟨f1, f2⟩ := bP hf
 have hz5 : z.sets.length <= 100000 := by omega
 have addK : ∀ (l : List Signed) (fl : Bool) (n : Bs) (t : Int), l.length <= 100000 -> FnR cxR 121 true 63 5 (l.map ag) fl [.agg (aA z), .str n, .int .i64 t] ((aH l z ⟨n, t⟩).map ag) := fun l fl n t hl => fU (cx := cx) (cx' := cxR) rfl rfl (kY l fl z n t hl hz5)
 have lenE : ∀ n t, (((aH [] z ⟨n, t⟩).map ag).length : Int) = ((aH [] z ⟨n, t⟩).length : Int) := fun n t => by rw [List.length_map]
 have len1 : ∀ n t, (aH [] z ⟨n, t⟩).length <= 100 := fun n t => by have := gH [] z ⟨n, t⟩; simp at this; omega
 have ho := aP hv
 have hqn : af q.name = true := by unfold aL at hq; simp only [Bool.and_eq_true] at hq; exact hq.1.1
 have covK : ∀ (l : List Signed) (fl : Bool) (n : Bs), l.length <= 100000 -> af n = true -> FnR cxR 122 true 63 5 (l.map ag) fl [.agg (aA z), .str n] ((aY l z n).map ag) := fun l fl n hl hn => fU (cx := cx) (cx' := cxR) rfl rfl (lQ l fl z n hl hz5 ho.name hn)
 conv => whnf
 refine ⟨xB z q w proof, hw, ?_⟩
 conv => whnf
 refine ⟨_, addK [] false w q.type (by simp), ?_⟩
 conv => whnf
 rw [lenE]
 refine ab (fun hdw => ?_) (fun hdw => ?_) <;> (rw [hdw]; conv => whnf)
 . rw [if_pos hdw] at hr; subst hr
   refine ⟨_, covK (aH [] z ⟨w, q.type⟩) _ q.name (by have := len1 w q.type; omega) hqn, ?_⟩
   conv => whnf
   exact ae rfl rfl
 rw [if_neg (by rw [hdw]; simp)] at hr
 refine ⟨xB z q w proof, ah.keep ⟨⟨rfl, rfl⟩, ⟨rfl, rfl⟩, ⟨rfl, rfl⟩, ⟨rfl, rfl⟩, ⟨rfl, rfl⟩, trivial⟩ ⟨⟨rfl, rfl⟩, ⟨rfl, rfl⟩, ⟨rfl, rfl⟩, ⟨rfl, rfl⟩, trivial⟩, ?_⟩
 conv => whnf
 refine ⟨_, addK [] false w 3 (by simp), ?_⟩
 conv => whnf
 rw [lenE]
 refine ab (fun haw => ?_) (fun haw => ?_) <;> (rw [haw]; conv => whnf)
 . refine ab (fun h8w => ?_) (fun h8w => ?_) <;> (rw [h8w]; conv => whnf)
   . rw [if_pos (by rw [haw, h8w]; rfl)] at hr; subst hr
     refine ⟨_, covK (aH [] z ⟨w, 3⟩) _ q.name (by have := len1 w 3; omega) hqn, ?_⟩
     conv => whnf
     exact ae rfl rfl
   . rw [if_neg (by rw [haw, h8w]; simp)] at hr
     exact ph z q hf hv hq w hwv proof hpl r hr _ (ah.keep ⟨⟨rfl, rfl⟩, ⟨rfl, rfl⟩, ⟨rfl, rfl⟩, ⟨rfl, rfl⟩, ⟨rfl, rfl⟩, trivial⟩ ⟨⟨rfl, rfl⟩, ⟨rfl, rfl⟩, ⟨rfl, rfl⟩, ⟨rfl, rfl⟩, trivial⟩)
 . rw [if_neg (by rw [haw]; simp)] at hr
   exact ph z q hf hv hq w hwv proof hpl r hr _ (ah.keep ⟨⟨rfl, rfl⟩, ⟨rfl, rfl⟩, ⟨rfl, rfl⟩, ⟨rfl, rfl⟩, ⟨rfl, rfl⟩, trivial⟩ ⟨⟨rfl, rfl⟩, ⟨rfl, rfl⟩, ⟨rfl, rfl⟩, ⟨rfl, rfl⟩, trivial⟩)
set_option maxHeartbeats 1000000 in
theorem pj (z : ao) (q : av) (hf : cN z = true) (hv : aR z = true) (hq : aL q = true) (hu : an q.name z.apex = true) (r : Ans × Int) (hr : (if bF z q.name = true then ((⟨5, aY (aH [] z ⟨z.apex, 4⟩) z q.name, []⟩ : Ans), (0 : Int))
      else if (!((bC ([42] :: az (bU z q.name))).2 == 0)) = true then (⟨6, aY (aH [] z ⟨z.apex, 4⟩) z q.name, []⟩, 0)
      else let w := (bC ([42] :: az (bU z q.name))).1
      if decide (((aH [] z ⟨w, q.type⟩).length : Int) > 0) = true then (⟨2, aY (aH [] z ⟨w, q.type⟩) z q.name, []⟩, 0)
      else if (decide (((aH [] z ⟨w, 3⟩).length : Int) > 0) && (q.type != 8)) = true then (⟨3, aY (aH [] z ⟨w, 3⟩) z q.name, []⟩, 0)
      else if bF z w = true then (⟨5, aY (aY (aH [] z ⟨z.apex, 4⟩) z q.name) z w, []⟩, 0)
      else (⟨6, aY (aY (aH [] z ⟨z.apex, 4⟩) z q.name) z w, []⟩, 0)) = r) (st : St) (hw : ah cxR st (stR z q)) :
 vc cxR Tryz.f75.ntmps fzR (oz 12 ((Tryz.f75.body).getD .skip)) (fnQ cxR Tryz.f75.results.toList (.tuple [.agg ((cB r.1).map .d), .d (.int .i64 r.2)]) []) st := by
 obtain ⟨f1, f2⟩ := bP hf
 have hz5 : z.sets.length <= 100000 := by omega
 have addK : ∀ (l : List Signed) (fl : Bool) (n : Bs) (t : Int), l.length <= 100000 -> FnR cxR 121 true 63 5 (l.map ag) fl [.agg (aA z), .str n, .int .i64 t] ((aH l z ⟨n, t⟩).map ag) := fun l fl n t hl => fU (cx := cx) (cx' := cxR) rfl rfl (kY l fl z n t hl hz5)
 have lenE : ∀ n t, (((aH [] z ⟨n, t⟩).map ag).length : Int) = ((aH [] z ⟨n, t⟩).length : Int) := fun n t => by rw [List.length_map]
 have len1 : ∀ n t, (aH [] z ⟨n, t⟩).length <= 100 := fun n t => by have := gH [] z ⟨n, t⟩; simp at this; omega
 have ho := aP hv
 have hqn : af q.name = true := by unfold aL at hq; simp only [Bool.and_eq_true] at hq; exact hq.1.1
 have covK : ∀ (l : List Signed) (fl : Bool) (n : Bs), l.length <= 100000 -> af n = true -> FnR cxR 122 true 63 5 (l.map ag) fl [.agg (aA z), .str n] ((aY l z n).map ag) := fun l fl n hl hn => fU (cx := cx) (cx' := cxR) rfl rfl (lQ l fl z n hl hz5 ho.name hn)
 have hval := nZ.1 hv
 have hex : bF z z.apex = true := mh hval.start
 have hcl : af (bU z q.name) = true := po hqn
 conv => whnf
 refine ⟨stR z q, hw, ?_⟩
 conv => whnf
 (refine ⟨(by kernel_rfl : hZ _ = true), ?_⟩; conv => whnf)
 refine ⟨_, addK [] false z.apex 4 (by simp), ?_⟩
 conv => whnf
 (repeat (refine ⟨by kernel_rfl, ?_⟩)); conv => whnf
 refine ⟨_, covK (aH [] z ⟨z.apex, 4⟩) _ q.name (by have := len1 z.apex 4; omega) hqn, ?_⟩
 conv => whnf
 (repeat (refine ⟨by kernel_rfl, ?_⟩)); conv => whnf
 refine ⟨IF z q (aY (aH [] z ⟨z.apex, 4⟩) z q.name), ah.keep ⟨⟨rfl, rfl⟩, ⟨rfl, rfl⟩, ⟨rfl, rfl⟩, ⟨rfl, rfl⟩, trivial⟩ ⟨⟨rfl, rfl⟩, ⟨rfl, rfl⟩, ⟨rfl, rfl⟩, ⟨rfl, rfl⟩, trivial⟩, ?_⟩
 conv => whnf
 (refine ⟨_, _, oW z q.name hz5 ho.name hqn, ?_⟩; conv => whnf)
 refine ab (fun he => ?_) (fun he => ?_) <;> (rw [he]; conv => whnf)
 . rw [if_pos he] at hr; subst hr; exact ae rfl rfl
 rw [if_neg (by rw [he]; simp)] at hr
 refine ⟨IF z q (aY (aH [] z ⟨z.apex, 4⟩) z q.name), ah.keep ⟨⟨rfl, rfl⟩, ⟨rfl, rfl⟩, ⟨rfl, rfl⟩, ⟨rfl, rfl⟩, trivial⟩ ⟨⟨rfl, rfl⟩, ⟨rfl, rfl⟩, ⟨rfl, rfl⟩, ⟨rfl, rfl⟩, trivial⟩, ?_⟩
 conv => whnf
 (refine ⟨_, _, Ch z q.name hz5 ho.name hqn hu hex, ?_⟩; conv => whnf)
 (refine ⟨_, _, zj (bU z q.name) hcl, ?_⟩; conv => whnf)
 refine ab (fun hj => ?_) (fun hj => ?_) <;> (rw [hj]; conv => whnf)
 . rw [if_pos hj] at hr; subst hr; exact ae rfl rfl
 rw [if_neg (by rw [hj]; simp)] at hr
 have hwv : af (bC ([42] :: az (bU z q.name))).1 = true := by
  have hj0 : (bC ([42] :: az (bU z q.name))).2 = 0 := by simpa using hj
  unfold bC at hj0 ⊢
  split
  . rename_i h; exact (rj h).1
  . rename_i h; rw [if_neg h] at hj0; simp at hj0
 have hcl2 := Cf (aH [] z ⟨z.apex, 4⟩) z q.name
 have hl4 := len1 z.apex 4
 exact wO z q hf hv hq _ hwv _ (by omega) r hr _ (ah.keep ⟨⟨rfl, rfl⟩, ⟨rfl, rfl⟩, ⟨rfl, rfl⟩, ⟨rfl, rfl⟩, ⟨rfl, rfl⟩, trivial⟩ ⟨⟨rfl, rfl⟩, ⟨rfl, rfl⟩, ⟨rfl, rfl⟩, ⟨rfl, rfl⟩, trivial⟩)
theorem xM (z : ao) (q : av) (hf : cN z = true) (hv : aR z = true) (hq : aL q = true) (hu : an q.name z.apex = true) (hno : (!(aN z q.name == []) && (!(aN z q.name == q.name) || !dM q)) = false) (r : Ans × Int) (hr : jB z q = r) (st : St) (hw : ah cxR st (stR z q)) :
 vc cxR Tryz.f75.ntmps fzR (oz 8 ((Tryz.f75.body).getD .skip)) (fnQ cxR Tryz.f75.results.toList (.tuple [.agg ((cB r.1).map .d), .d (.int .i64 r.2)]) []) st := by
 obtain ⟨f1, f2⟩ := bP hf
 have hz5 : z.sets.length <= 100000 := by omega
 have addK : ∀ (l : List Signed) (fl : Bool) (n : Bs) (t : Int), l.length <= 100000 -> FnR cxR 121 true 63 5 (l.map ag) fl [.agg (aA z), .str n, .int .i64 t] ((aH l z ⟨n, t⟩).map ag) := fun l fl n t hl => fU (cx := cx) (cx' := cxR) rfl rfl (kY l fl z n t hl hz5)
 have lenE : ∀ n t, (((aH [] z ⟨n, t⟩).map ag).length : Int) = ((aH [] z ⟨n, t⟩).length : Int) := fun n t => by rw [List.length_map]
 have len1 : ∀ n t, (aH [] z ⟨n, t⟩).length <= 100 := fun n t => by have := gH [] z ⟨n, t⟩; simp at this; omega
 have ho := aP hv
 have hqn : af q.name = true := by unfold aL at hq; simp only [Bool.and_eq_true] at hq; exact hq.1.1
 have covK : ∀ (l : List Signed) (fl : Bool) (n : Bs), l.length <= 100000 -> af n = true -> FnR cxR 122 true 63 5 (l.map ag) fl [.agg (aA z), .str n] ((aY l z n).map ag) := fun l fl n hl hn => fU (cx := cx) (cx' := cxR) rfl rfl (lQ l fl z n hl hz5 ho.name hn)
 have hvq : (!aR z || !aL q) = false := by rw [hv, hq]; rfl
 unfold jB at hr
 rw [if_neg (by simp [hvq]), if_neg (by simp [hu]), if_neg (by rw [hno]; simp)] at hr
 conv => whnf
 refine ⟨stR z q, hw, ?_⟩
 conv => whnf
 refine ⟨_, addK [] false q.name q.type (by simp), ?_⟩
 conv => whnf
 rw [lenE]
 refine ab (fun hd => ?_) (fun hd => ?_) <;> (rw [hd]; conv => whnf)
 . rw [if_pos hd] at hr; subst hr
   exact ae rfl rfl
 rw [if_neg (by rw [hd]; simp)] at hr
 refine ⟨stR z q, ah.keep ⟨⟨rfl, rfl⟩, ⟨rfl, rfl⟩, ⟨rfl, rfl⟩, trivial⟩ ⟨⟨rfl, rfl⟩, ⟨rfl, rfl⟩, ⟨rfl, rfl⟩, trivial⟩, ?_⟩
 conv => whnf
 refine ⟨_, addK [] false q.name 3 (by simp), ?_⟩
 conv => whnf
 rw [lenE]
 refine ab (fun ha => ?_) (fun ha => ?_) <;> (rw [ha]; conv => whnf)
 . refine ab (fun h8 => ?_) (fun h8 => ?_) <;> (rw [h8]; conv => whnf)
   . rw [if_pos (by rw [ha, h8]; rfl)] at hr; subst hr; exact ae rfl rfl
   . rw [if_neg (by rw [ha, h8]; simp)] at hr
     exact pj z q hf hv hq hu r hr _ (ah.keep ⟨⟨rfl, rfl⟩, ⟨rfl, rfl⟩, ⟨rfl, rfl⟩, trivial⟩ ⟨⟨rfl, rfl⟩, ⟨rfl, rfl⟩, ⟨rfl, rfl⟩, trivial⟩)
 . rw [if_neg (by rw [ha]; simp)] at hr
   exact pj z q hf hv hq hu r hr _ (ah.keep ⟨⟨rfl, rfl⟩, ⟨rfl, rfl⟩, ⟨rfl, rfl⟩, trivial⟩ ⟨⟨rfl, rfl⟩, ⟨rfl, rfl⟩, ⟨rfl, rfl⟩, trivial⟩)
theorem Bn (z : ao) (q : av) (hf : cN z = true) : NQ.Fn cx 75 [.agg (aA z), .agg (bq q)] (.tuple [.agg ((cB (jB z q).1).map .d), .d (.int .i64 (jB z q).2)]) [] := by
 show NQ.Fn cxR _ _ _ _
 refine cH fzR tyR x7 Tryz.func75 (by kernel_rfl) rfl (Nat.le_of_ble_eq_true rfl) ?_
 conv => whnf
 obtain ⟨f1, f2⟩ := bP hf
 have hz5 : z.sets.length <= 100000 := by omega
 have addK : ∀ (l : List Signed) (fl : Bool) (n : Bs) (t : Int), l.length <= 100000 -> FnR cxR 121 true 63 5 (l.map ag) fl [.agg (aA z), .str n, .int .i64 t] ((aH l z ⟨n, t⟩).map ag) := fun l fl n t hl => fU (cx := cx) (cx' := cxR) rfl rfl (kY l fl z n t hl hz5)
 have len1 : ∀ n t, (aH [] z ⟨n, t⟩).length <= 1 := fun n t => gH [] z ⟨n, t⟩
 have lenE : ∀ n t, (((aH [] z ⟨n, t⟩).map ag).length : Int) = ((aH [] z ⟨n, t⟩).length : Int) := fun n t => by rw [List.length_map]
 (refine ⟨_, _, vJ z hz5, ?_⟩; conv => whnf)
 (refine ⟨_, _, pP q, ?_⟩; conv => whnf)
 have bad : (!aR z || !aL q) = true -> jB z q = (dF, 1) := fun h => by unfold jB; rw [if_pos h]
 refine ab (fun hv => ?_) (fun hv => ?_) <;> (rw [hv]; conv => whnf)
 . exact ae rfl (by rw [bad (by rw [hv]; rfl)]; rfl)
 refine ab (fun hq => ?_) (fun hq => ?_) <;> (rw [hq]; conv => whnf)
 . exact ae rfl (by rw [bad (by rw [hq]; simp)]; rfl)
 have hvq : (!aR z || !aL q) = false := by rw [hv, hq]; rfl
 have hv : aR z = true := by simpa using hv
 have hq : aL q = true := by simpa using hq
 have ho := aP hv
 have hqn : af q.name = true := by unfold aL at hq; simp only [Bool.and_eq_true] at hq; exact hq.1.1
 have covK : ∀ (l : List Signed) (fl : Bool) (n : Bs), l.length <= 100000 -> af n = true -> FnR cxR 122 true 63 5 (l.map ag) fl [.agg (aA z), .str n] ((aY l z n).map ag) := fun l fl n hl hn => fU (cx := cx) (cx' := cxR) rfl rfl (lQ l fl z n hl hz5 ho.name hn)
 (refine ⟨_, _, ju q.name z.apex (aS hqn) (aS ho.apex), ?_⟩; conv => whnf)
 refine ab (fun hu => ?_) (fun hu => ?_) <;> (rw [hu]; conv => whnf)
 . exact ae rfl (by unfold jB; rw [if_neg (by simp [hvq]), if_pos hu]; rfl)
 have hun : (!an q.name z.apex) = false := hu
 have hu : an q.name z.apex = true := by simpa using hu
 (refine ⟨_, _, FX z q.name hz5 ho.name hqn, ?_⟩; conv => whnf)
 have base : jB z q = if (!(aN z q.name == []) && (!(aN z q.name == q.name) || !dM q)) = true then (iQ z (aN z q.name), 0)
     else if decide (((aH [] z q).length : Int) > 0) = true then (⟨1, aH [] z q, []⟩, 0)
     else if (decide (((aH [] z ⟨q.name, 3⟩).length : Int) > 0) && (q.type != 8)) = true then (⟨3, aH [] z ⟨q.name, 3⟩, []⟩, 0)
     else if bF z q.name = true then (⟨5, aY (aH [] z ⟨z.apex, 4⟩) z q.name, []⟩, 0)
     else if (!((bC ([42] :: az (bU z q.name))).2 == 0)) = true then (⟨6, aY (aH [] z ⟨z.apex, 4⟩) z q.name, []⟩, 0)
     else let w := (bC ([42] :: az (bU z q.name))).1
     if decide (((aH [] z ⟨w, q.type⟩).length : Int) > 0) = true then (⟨2, aY (aH [] z ⟨w, q.type⟩) z q.name, []⟩, 0)
     else if (decide (((aH [] z ⟨w, 3⟩).length : Int) > 0) && (q.type != 8)) = true then (⟨3, aY (aH [] z ⟨w, 3⟩) z q.name, []⟩, 0)
     else if bF z w = true then (⟨5, aY (aY (aH [] z ⟨z.apex, 4⟩) z q.name) z w, []⟩, 0)
     else (⟨6, aY (aY (aH [] z ⟨z.apex, 4⟩) z q.name) z w, []⟩, 0) := by unfold jB; rw [if_neg (by simp [hvq]), if_neg (by simp [hun])]
 have ref : aN z q.name ≠ [] -> NQ.Fn cxR 120 [.agg (aA z), .str (aN z q.name)] (.agg ((cB (iQ z (aN z q.name))).map .d)) [] := fun hne => by
  obtain ⟨c1, c2⟩ := nz ho hne
  exact CY z (aN z q.name) (by omega) c1 c2 (Al ho hf)
 have done : ∀ (b : Bool), (!(aN z q.name == []) && (!(aN z q.name == q.name) || !dM q)) = b -> b = true -> jB z q = (iQ z (aN z q.name), 0) := fun b h1 h2 => by rw [base, if_pos (by rw [h1, h2])]
 have hval := nZ.1 hv
 have hex : bF z z.apex = true := mh hval.start
 have hcl : af (bU z q.name) = true := po hqn
 repeat' (first
  | (refine ab (fun h => ?_) (fun h => ?_) <;> (rw [h]; conv => whnf))
  | (refine ⟨_, _, ref (DM (by assumption)), ?_⟩
     conv => whnf
     have e0 : (!(aN z q.name == [])) = true := by assumption
     have e1 : (!(aN z q.name == []) && (!(aN z q.name == q.name) || !dM q)) = true := by (unfold dM; simp only [*, if_true, if_false, Bool.false_eq_true, Bool.not_true, Bool.not_false, Bool.not_not, Bool.true_or, Bool.or_true, Bool.false_or, Bool.or_false, Bool.and_true, Bool.true_and, Bool.false_and, Bool.and_false])
     exact ae rfl (by rw [done _ e1 rfl]; rfl))
  | fail)
 all_goals
  have hno : (!(aN z q.name == []) && (!(aN z q.name == q.name) || !dM q)) = false := by
   unfold dM
   first
    | (have e0 : (!(aN z q.name == [])) = true := by assumption
       simp only [*, if_true, if_false, Bool.false_eq_true, Bool.not_true, Bool.not_false, Bool.not_not, Bool.true_or, Bool.or_true, Bool.false_or, Bool.or_false, Bool.and_true, Bool.true_and, Bool.false_and, Bool.and_false]; done)
    | (have e0 : (!(aN z q.name == [])) = false := by assumption
       simp only [*, if_true, if_false, Bool.false_eq_true, Bool.not_true, Bool.not_false, Bool.not_not, Bool.true_or, Bool.or_true, Bool.false_or, Bool.or_false, Bool.and_true, Bool.true_and, Bool.false_and, Bool.and_false]; done)
  exact xM z q hf hv hq hu hno _ rfl _ (ah.keep ⟨⟨rfl, rfl⟩, ⟨rfl, rfl⟩, ⟨rfl, rfl⟩, trivial⟩ ⟨⟨rfl, rfl⟩, ⟨rfl, rfl⟩, ⟨rfl, rfl⟩, trivial⟩)
end Go.Proofs.YtnbnldnfkikakaaGreatDoor

set_option maxRecDepth 100000
namespace NP
open NQ Go
def eE (sets : List Signed) (l : List Signed) (p : Int) : List Signed :=
 if decide (p < 0) = true then l else match sets[p.toNat]? with | some s => if bl l (qOf s) = true then l else l ++ [s] | none => l
def Ee (sets l : List Signed) (seen : List Int) : Prop := ∀ (k : Nat) s, sets[k]? = some s -> bl l (qOf s) = seen.contains (k : Int)
theorem vO {sets : List Signed} (hr : RP sets) {i j : Nat} {a b : Signed} (ha : sets[i]? = some a) (hb : sets[j]? = some b) (h : a.place = b.place) : i = j := by
 have hp := List.pairwise_iff_getElem.1 hr
 obtain ⟨hi, e1⟩ := List.getElem?_eq_some_iff.1 ha
 obtain ⟨hj, e2⟩ := List.getElem?_eq_some_iff.1 hb
 rcases Nat.lt_trichotomy i j with hlt | heq | hlt
 . exact absurd h (by have := hp i j hi hj hlt; rw [e1, e2] at this; exact iH this)
 . exact heq
 . exact absurd h.symm (by have := hp j i hj hi hlt; rw [e1, e2] at this; exact iH this)
theorem jJ {sets : List Signed} (hr : RP sets) : ∀ (ps : List Int) (l : List Signed) (seen : List Int), (∀ p ∈ ps, p < sets.length) -> Ee sets l seen -> ps.foldl (eE sets) l = l ++ bj sets seen ps
 | [], l, seen, _, _ => by simp [bj]
 | p :: ps, l, seen, hp, hs => by
  have hps : ∀ q ∈ ps, q < sets.length := fun q hq => hp q (List.mem_cons_of_mem _ hq)
  rw [List.foldl_cons, bj]
  by_cases hneg : p < 0
  . have e : eE sets l p = l := by unfold eE; rw [if_pos (by simpa using hneg)]
    rw [e, if_pos (by simp [hneg])]
    refine jJ hr ps l _ hps fun k s hk => ?_
    rw [hs k s hk, Bool.eq_iff_iff, List.contains_iff_mem, List.contains_iff_mem, List.mem_append]
    refine ⟨.inl, fun h => h.elim id fun h => ?_⟩
    simp at h; omega
  . have hplt := hp p (List.mem_cons_self ..)
    obtain ⟨s, hsp⟩ : ∃ s, sets[p.toNat]? = some s := ⟨_, List.getElem?_eq_getElem (by omega)⟩
    have hpn : ((p.toNat : Nat) : Int) = p := by omega
    have hin := hs p.toNat s hsp
    rw [hpn] at hin
    cases hc : seen.contains p with
    | true =>
     rw [hc] at hin
     have e : eE sets l p = l := by unfold eE; rw [if_neg (by simpa using hneg), hsp]; simp only [hin, if_true]
     rw [e, if_pos (by simp [hc])]
     refine jJ hr ps l _ hps fun k t hk => ?_
     rw [hs k t hk, Bool.eq_iff_iff, List.contains_iff_mem, List.contains_iff_mem, List.mem_append]
     refine ⟨.inl, fun h => h.elim id fun h => ?_⟩
     simp at h; rw [h]; exact List.contains_iff_mem.1 hc
    | false =>
     rw [hc] at hin
     have e : eE sets l p = l ++ [s] := by unfold eE; rw [if_neg (by simpa using hneg), hsp]; simp only [hin, if_false, Bool.false_eq_true]
     rw [e, if_neg (by simp [hneg, hc]), hsp]
     rw [jJ hr ps (l ++ [s]) (seen ++ [p]) hps fun k t hk => ?_]
     . simp
     . have : bl (l ++ [s]) (qOf t) = (bl l (qOf t) || is (qOf t) s) := by unfold bl; rw [List.any_append]; simp
       rw [this, hs k t hk, Bool.eq_iff_iff, Bool.or_eq_true, List.contains_iff_mem, List.contains_iff_mem, List.mem_append]
       refine or_congr Iff.rfl ?_
       rw [jo, List.mem_singleton]
       constructor
       . intro h
         have := vO hr hsp hk h
         omega
       . intro h
         have : k = p.toNat := by omega
         subst this; rw [hsp] at hk; cases hk; rfl
theorem oD (sets : List Signed) : Ee sets [] [] := fun k s _ => rfl
theorem dX {z : ao} (l : List Signed) (q : av) : aH l z q = eE z.sets l (atI z.sets q) := by
 unfold aH eE
 by_cases h : decide (atI z.sets q < 0) = true
 . rw [if_pos h, if_pos h]
 . rw [if_neg h, if_neg h]
   have hh : bl z.sets q = true := by
    have := fc z.sets q
    cases hc : bl z.sets q with
    | true => rfl
    | false => rw [hc] at this; exact absurd this h
   obtain ⟨k, s, h1, h2, h3⟩ := kB hh
   have hk : (atI z.sets q).toNat = k := by rw [h1]; rfl
   rw [hk, h2]
   simp only
   have : bl l q = bl l (qOf s) := by
    unfold bl
    congr 1
    funext x
    rw [Bool.eq_iff_iff, jo, jo]
    have : (qOf s).place = q.place := h3
    rw [this]
   rw [this]
theorem ug (l : List Signed) (n : Bs) : ∀ k : Nat, k <= ko l n -> (∀ i s, i < k -> l[i]? = some s -> ax s.set.name n <= 0) -> (jh l n k = none /\ ik l k = -1) \/ ∃ i s, l[i]? = some s /\ jh l n k = some s /\ ik l k = ((i : Nat) : Int) /\ s.set.type = 8
 | 0, _, _ => .inl ⟨rfl, rfl⟩
 | k + 1, hk, h => by
  have hlt : k < l.length := by have := kM l n; omega
  obtain ⟨s, hs⟩ : ∃ s, l[k]? = some s := ⟨_, List.getElem?_eq_getElem hlt⟩
  have hc := h k s (by omega) hs
  simp only [jh, ik, hs]
  by_cases ht : s.set.type = 8
  . refine .inr ⟨k, s, hs, ?_, ?_, ht⟩
    . rw [if_pos (by unfold kz; simp [ht, hc])]
    . simp [ht]
  . have e1 : kz n s = false := by unfold kz; simp [ht]
    rw [if_neg (by simp [e1])]
    have e2 : (s.set.type == 8) = false := by simpa using ht
    have := ug l n k (by omega) fun i s hi hs => h i s (by omega) hs
    simpa [e2, ht] using this
theorem wo (l : List Signed) (n : Bs) : ∀ k j : Nat, j <= k -> (∀ i s, j <= i -> i < k -> l[i]? = some s -> 0 < ax s.set.name n) -> jh l n k = jh l n j
 | 0, j, hj, _ => by obtain rfl : j = 0 := by omega
                     rfl
 | k + 1, j, hj, h => by
  by_cases e : j = k + 1
  . rw [e]
  . rw [jh]
    have := wo l n k j (by omega) fun i s h1 h2 hs => h i s h1 (by omega) hs
    cases hs : l[k]? with
    | none => exact this
    | some s =>
     have hc := h k s (by omega) (by omega) hs
     have e1 : kz n s = false := by unfold kz; rw [decide_eq_false (by omega)]; simp
     simp only
     rw [if_neg (by simp [e1])]
     exact this
theorem DP {z : ao} (hr : cy z.sets) (n : Bs) : (jh z.sets n z.sets.length = none /\ cZ z.sets n = -1) \/ ∃ i s, z.sets[i]? = some s /\ jh z.sets n z.sets.length = some s /\ cZ z.sets n = ((i : Nat) : Int) /\ s.set.type = 8 := by
 have hp := jR hr
 rw [wo z.sets n z.sets.length (ko z.sets n) (kM _ _) fun i s h1 _ hs => (oN hp hs).1 h1]
 exact ug z.sets n _ (Nat.le_refl _) fun i s hi hs => by
  have : ¬ (ko z.sets n <= i) := by omega
  rw [oN hp hs] at this; omega
theorem jr {z : ao} (hr : cy z.sets) (l : List Signed) (n : Bs) : aY l z n = eE z.sets l (cZ z.sets n) := by
 unfold aY
 rcases DP hr n with ⟨h1, h2⟩ | ⟨i, s, hs, h1, h2, ht⟩
 . rw [h1, h2]; rfl
 . rw [h1, h2]
   simp only
   rw [dX]
   have hmem := List.mem_of_getElem? hs
   have hq : (⟨s.set.name, 8⟩ : av).place = s.place := by unfold av.place Signed.place; simp [ht]
   have hh : bl z.sets ⟨s.set.name, 8⟩ = true := gY.2 ⟨s, hmem, hq.symm⟩
   obtain ⟨k, t, h3, h4, h5⟩ := kB hh
   have := vO hr.pw h4 hs (h5.trans hq)
   subst this
   rw [h3]
theorem Ih {a b : Bs} (h : ax a b <= 0) : 0 <= ax b a := by have := aV.anti a b; omega
theorem F9 {a b : Bs} (h : 0 <= ax a b) : ax b a <= 0 := by have := aV.anti a b; omega
theorem pG {s n : Bs} (hs : af s = true) (hn : af n = true) : (aM s n).1 = an s n := by unfold aM; rw [if_pos ⟨hs, hn⟩]
theorem fw {z : ao} (ho : Ordered z) {n : Bs} (hn : af n = true) : exB z.sets n = bF z n := by
 have hp := jR ho.rising
 have ge : ∀ s ∈ z.sets, an s.set.name n = true -> ∃ i, z.sets[i]? = some s /\ lV z.sets n <= i := fun s hs hu => by
  obtain ⟨i, hi⟩ := List.getElem?_of_mem hs
  exact ⟨i, hi, (oM hp hi).2 (Ih (kJ hu))⟩
 unfold exB bF
 cases hg : z.sets[lV z.sets n]? with
 | none =>
  symm
  rw [List.any_eq_false]
  intro s hs hu
  obtain ⟨i, hi, hle⟩ := ge s hs hu
  have h1 := (List.getElem?_eq_some_iff.1 hi).1
  have h2 := List.getElem?_eq_none_iff.1 hg
  omega
 | some t =>
  have htm := List.mem_of_getElem? hg
  simp only
  rw [pG (ho.name t htm) hn]
  cases hu : an t.set.name n with
  | true => symm; exact List.any_eq_true.2 ⟨t, htm, hu⟩
  | false =>
   symm
   rw [List.any_eq_false]
   intro s hs hus
   obtain ⟨i, hi, hle⟩ := ge s hs hus
   have hnt : ax n t.set.name <= 0 := F9 ((oM hp hg).1 (Nat.le_refl _))
   have hts : ax t.set.name s.set.name <= 0 := by
    rcases Nat.lt_or_eq_of_le hle with hlt | heq
    . obtain ⟨h1, e1⟩ := List.getElem?_eq_some_iff.1 hg
      obtain ⟨h2, e2⟩ := List.getElem?_eq_some_iff.1 hi
      have := List.pairwise_iff_getElem.1 hp _ _ h1 h2 hlt
      rwa [e1, e2] at this
    . rw [<- heq, hg] at hi; cases hi
      have := (aV.zero t.set.name t.set.name).2 rfl
      omega
   have := kI (er n) hus hnt hts
   rw [hu] at this; cases this
theorem yV {z : ao} (ho : Ordered z) (hex : bF z z.apex = true) : ∀ (f : Nat) (n : Bs), af n = true -> an n z.apex = true -> kU z.apex z.sets f n = s4 z f n
 | 0, n, _, _ => rfl
 | f + 1, n, hn, hu => by
  rw [kU, s4]
  by_cases hne : n = z.apex
  . subst hne; rw [if_pos rfl, if_pos hex]
  . rw [if_neg hne, fw ho hn]
    cases he : bF z n with
    | true => rw [if_pos rfl, if_pos rfl]
    | false =>
     rw [if_neg (by simp), if_neg (by simp)]
     obtain ⟨_, k2, _⟩ := kG hn hu hne
     exact yV ho hex f (cj n) (eL hn) k2
theorem tZ {z : ao} {v : View} (hv : v.sets = z.sets) (hc : af v.cut = true) : ∀ (h : List Datum) (l : List Signed), (∀ d ∈ h, af d.text = true) -> gq z v.cut l h = (cQ v h).foldl (eE z.sets) l
 | [], l, _ => by simp [gq, cQ]
 | d :: h, l, hd => by
  have e1 : gq z v.cut l (d :: h) = gq z v.cut (if an d.text v.cut = true then aH l z ⟨d.text, 1⟩ else l) h := rfl
  have e2 : cQ v (d :: h) = (if (aM d.text v.cut).1 = true then [atI v.sets ⟨d.text, 1⟩] else []) ++ cQ v h := by unfold cQ; rw [List.flatMap_cons]
  rw [e1, e2, List.foldl_append, pG (hd d (List.mem_cons_self ..)) hc, tZ hv hc h _ fun x hx => hd x (List.mem_cons_of_mem _ hx)]
  congr 1
  split
  . rw [dX, hv]; rfl
  . rfl
theorem Hy {v : View} {l : List Datum} {q : Int} (hq : q ∈ cQ v l) : q < v.sets.length := by
 unfold cQ at hq
 obtain ⟨x, _, hx⟩ := List.mem_flatMap.1 hq
 split at hx
 . simp at hx; rw [hx]; exact b5 _ _
 . cases hx
theorem pT {v : View} {q : Int} (hq : q ∈ cT v) : q < v.sets.length := by
 unfold cT at hq
 rcases List.mem_append.1 hq with hq | hq
 . simp at hq
   rcases hq with rfl | rfl
   . exact b5 _ _
   . unfold fo; split <;> exact b5 _ _
 . exact Hy hq
theorem ES {z : ao} {v : View} (ho : Ordered z) (hf : cN z = true) (hs : v.sets = z.sets) (hc : af v.cut = true) (hcut : bl z.sets ⟨v.cut, 2⟩ = true) : (⟨4, bj v.sets [] (cT v), v.cut⟩ : Ans) = iQ z v.cut := by
 obtain ⟨s0, hs0, hp0, e0⟩ := s8 hcut
 have hr0 : rl0 z v.cut = [s0] := e0
 have e2 : rl2 z v.cut = eE z.sets (eE z.sets [] (cK v)) (fo v) := by
  have e3 : eE z.sets [] (cK v) = [s0] := by unfold cK; rw [hs, <- dX]; exact e0
  rw [e3]
  unfold rl2
  rw [hr0]
  have hr1 : rl1 z v.cut = eE z.sets [s0] (atI z.sets ⟨v.cut, 6⟩) := by unfold rl1; rw [hr0, dX]
  by_cases hneg : atI z.sets ⟨v.cut, 6⟩ < 0
  . have : rl1 z v.cut = [s0] := by rw [hr1]; unfold eE; rw [if_pos (by simpa using hneg)]
    rw [this, if_pos (by simp), dX]
    unfold fo; rw [hs, if_pos (by simpa using hneg)]
  . obtain ⟨k, s, h1, h2, h3⟩ := kB (l := z.sets) (q := ⟨v.cut, 6⟩) (by
     have := fc z.sets ⟨v.cut, 6⟩
     cases hc : bl z.sets ⟨v.cut, 6⟩ with
     | true => rfl
     | false => rw [hc] at this; simp at this; omega)
    have hno : bl [s0] (qOf s) = false := by
     unfold bl
     simp only [List.any_cons, List.any_nil, Bool.or_false]
     rw [<- Bool.not_eq_true, jo]
     intro e
     have e' : s0.place = s.place := e
     rw [hp0, h3] at e'
     have := congrArg Prod.snd e'
     simp [av.place] at this
    have : rl1 z v.cut = [s0] ++ [s] := by rw [hr1, h1]; unfold eE; rw [if_neg (by simp)]; simp only [show ((k : Nat) : Int).toNat = k by simp, h2, hno]; rfl
    rw [this, if_neg (by simp), <- this, hr1]
    unfold fo; rw [hs, if_neg (by simpa using hneg)]
 have hho : oi (rl0 z v.cut) = gk v := by
  have h1 : cK v = atI z.sets ⟨v.cut, 2⟩ := by unfold cK; rw [hs]
  obtain ⟨k, s, a1, a2, a3⟩ := kB hcut
  have : s = s0 := RP.uniq ho.rising.pw (List.mem_of_getElem? a2) hs0 (a3.trans hp0.symm)
  subst this
  unfold oi gk
  rw [hr0, h1, a1, hs]
  simp [a2]
 have hdv : ∀ d ∈ gk v, af d.text = true := by
  rw [<- hho]; unfold oi; rw [hr0]
  exact ((Al ho hf) s0 hs0).2 (congrArg Prod.snd hp0)
 unfold iQ
 congr 1
 rw [hho, e2, tZ hs hc _ _ hdv, hs]
 have := jJ ho.rising.pw (cT v) [] [] (fun p hp => by rw [<- hs]; exact pT hp) (oD _)
 rw [List.nil_append] at this
 rw [<- this]
 unfold cT
 rw [List.foldl_append]
 rfl
theorem GH {z : ao} (ho : Ordered z) (p : Int) (hp : p < z.sets.length) : bj z.sets [] [p] = eE z.sets [] p := by
 have := jJ ho.rising.pw [p] [] [] (fun q hq => by simp at hq; rw [hq]; exact hp) (oD _)
 rw [List.nil_append] at this
 rw [<- this]; rfl
theorem w8 {z : ao} (ho : Ordered z) (p q : Int) (hp : p < z.sets.length) (hq : q < z.sets.length) : bj z.sets [] [p, q] = eE z.sets (eE z.sets [] p) q := by
 have := jJ ho.rising.pw [p, q] [] [] (fun r hr => by simp at hr; rcases hr with rfl | rfl <;> assumption) (oD _)
 rw [List.nil_append] at this
 rw [<- this]; rfl
theorem GG {z : ao} (ho : Ordered z) (p q r : Int) (hp : p < z.sets.length) (hq : q < z.sets.length) (hr : r < z.sets.length) : bj z.sets [] [p, q, r] = eE z.sets (eE z.sets (eE z.sets [] p) q) r := by
 have := jJ ho.rising.pw [p, q, r] [] [] (fun x hx => by simp at hx; rcases hx with rfl | rfl | rfl <;> assumption) (oD _)
 rw [List.nil_append] at this
 rw [<- this]; rfl
theorem rB {z : ao} {q : av} : decide (((aH [] z q).length : Int) > 0) = decide (atI z.sets q >= 0) := by
 have h := fc z.sets q
 cases hh : bl z.sets q with
 | true =>
  obtain ⟨s, _, _, e⟩ := s8 hh
  rw [e]
  rw [hh] at h
  have : ¬ atI z.sets q < 0 := by simpa using h
  rw [decide_eq_true (by simp), decide_eq_true (by omega)]
 | false =>
  rw [Ec hh]
  rw [hh] at h
  have : atI z.sets q < 0 := by simpa using h
  rw [decide_eq_false (by simp), decide_eq_false (by omega)]
theorem DX {z : ao} (ho : Ordered z) (t : Int) : atI z.sets ⟨[], t⟩ < 0 := by
 have h := fc z.sets ⟨[], t⟩
 cases hh : bl z.sets ⟨[], t⟩ with
 | true =>
  obtain ⟨s, hs, hp⟩ := gY.1 hh
  have hv := ho.name s hs
  have : s.set.name = [] := congrArg Prod.fst hp
  rw [this] at hv; exact absurd rfl (fO hv)
 | false => rw [hh] at h; simpa using h
theorem Ha {z : ao} (hf : cN z = true) (q : av) : jB z q = aZ z q := by
 unfold jB
 have hty : (decide (q.type < 1) || decide (q.type > 8)) = true -> aZ z q = (dF, 1) := fun h => by unfold aZ; rw [if_pos h]
 have hcu : ∀ c b e, (decide (q.type < 1) || decide (q.type > 8)) = false -> cY z q.name = (c, b, e) -> aZ z q = if (e == 20) = true then (⟨7, [], []⟩, 0) else if (e != 0) = true then (dF, e) else (cM (im z q c b), 0) := fun c b e h hc => by
  unfold aZ; rw [if_neg (by simp [h]), hc]
 cases hv : aR z with
 | false =>
  rw [if_pos (by simp)]
  have hc : cY z q.name = ([], false, 1) := by unfold cY; rw [hv]; simp
  cases ht : (decide (q.type < 1) || decide (q.type > 8)) with
  | true => rw [hty ht]
  | false => rw [hcu _ _ _ ht hc]; rfl
 | true =>
 have ho := aP hv
 cases hqn : af q.name with
 | false =>
  have hqb : aL q = false := by unfold aL; rw [hqn]; rfl
  rw [if_pos (by rw [hqb]; rfl)]
  have hc : cY z q.name = ([], false, 1) := by unfold cY; rw [hqn]; simp
  cases ht : (decide (q.type < 1) || decide (q.type > 8)) with
  | true => rw [hty ht]
  | false => rw [hcu _ _ _ ht hc]; rfl
 | true =>
 cases ht : (decide (q.type < 1) || decide (q.type > 8)) with
 | true =>
  have hqb : aL q = false := by
   unfold aL; rw [hqn]
   simp at ht ⊢; omega
  rw [if_pos (by rw [hqb]; rfl), hty ht]
 | false =>
 have hqb : aL q = true := by
  unfold aL; rw [hqn]
  simp at ht ⊢; omega
 rw [if_neg (by rw [hqb]; simp)]
 cases hu : an q.name z.apex with
 | false =>
  rw [if_pos (by simp)]
  have hc : cY z q.name = ([], false, 20) := by unfold cY; rw [hqn, hv, pG hqn ho.apex, hu]; simp
  rw [hcu _ _ _ ht hc]; rfl
 | true =>
 rw [if_neg (by simp)]
 have hc := AN hv hqn hu
 have hR : aZ z q = (cM (im z q (aN z q.name) (!(aN z q.name == []))), 0) := by rw [hcu _ _ _ ht hc]; rfl
 rw [hR]
 have hval := nZ.1 hv
 have hex : bF z z.apex = true := mh hval.start
 generalize hcc : aN z q.name = c
 have hcOk : c ≠ [] -> af c = true /\ bl z.sets ⟨c, 2⟩ = true := fun h => hcc ▸ nz ho (hcc ▸ h)
 dsimp only
 generalize hvv : im z q c (!(c == [])) = v
 have hsets : v.sets = z.sets := by rw [<- hvv]; rfl
 have hvq : v.q = q := by rw [<- hvv]; rfl
 have hvc : v.cut = c := by rw [<- hvv]; rfl
 have hva : v.apex = z.apex := by rw [<- hvv]; rfl
 have hwild : v.bz = [] := by rw [<- hvv]; rfl
 have hrB : cF v = (!(c == []) && (!(c == q.name) || !dM q)) := by
  rw [<- hvv]
  unfold cF qH dM im
  dsimp only
  rw [Bool.beq_comm (a := q.name) (b := c)]
  cases (c == []) <;> cases (c == q.name) <;> simp
 unfold cM
 rw [hrB]
 cases hr : (!(c == []) && (!(c == q.name) || !dM q)) with
 | true =>
  simp only [↓reduceIte]
  have hne : c ≠ [] := by intro e; rw [e] at hr; simp at hr
  obtain ⟨h1, h2⟩ := hcOk hne
  have := ES (v := v) ho hf hsets (by rw [hvc]; exact h1) (by rw [hvc]; exact h2)
  unfold gL
  rw [hrB, hr, if_pos rfl, this, hvc]
 | false =>
 simp only [Bool.false_eq_true, ↓reduceIte]
 have hd : ml v = decide (((aH [] z q).length : Int) > 0) := by unfold ml; rw [rB, hsets, hvq]
 rw [hd]
 cases hdd : decide (((aH [] z q).length : Int) > 0) with
 | true =>
  simp only [↓reduceIte]
  unfold rp
  rw [hsets, hvq, GH ho _ (b5 _ _), dX]
 | false =>
 simp only [Bool.false_eq_true, ↓reduceIte]
 have ha : jt v = (decide (((aH [] z ⟨q.name, 3⟩).length : Int) > 0) && (q.type != 8)) := by unfold jt; rw [rB, hsets, hvq]
 rw [ha]
 cases haa : (decide (((aH [] z ⟨q.name, 3⟩).length : Int) > 0) && (q.type != 8)) with
 | true =>
  simp only [↓reduceIte]
  unfold uz
  rw [hsets, hvq, GH ho _ (b5 _ _), dX]
 | false =>
 simp only [Bool.false_eq_true, ↓reduceIte]
 have hproof : bj z.sets [] [cA v, cZ v.sets v.q.name] = aY (aH [] z ⟨z.apex, 4⟩) z q.name := by
  rw [w8 ho _ _ (by unfold cA; rw [hsets]; exact b5 _ _) (by rw [hsets]; exact cC _ _), jr ho.rising, dX]
  unfold cA
  rw [hsets, hvq, hva]
 rw [hsets, hvq, fw ho hqn]
 cases he : bF z q.name with
 | true =>
  simp only [↓reduceIte]
  unfold iS
  rw [hsets, hvq, fw ho hqn, he, if_pos rfl]
  rw [hsets, hvq] at hproof
  rw [<- hproof]
 | false =>
 simp only [Bool.false_eq_true, ↓reduceIte]
 have hcl : js v.apex v.sets v.q.name = bU z q.name := by
  unfold js bU
  rw [hsets, hvq, hva]
  exact yV ho hex _ _ hqn hu
 have hnd : aK v = { v with bz := eS (bU z q.name) } := by
  unfold aK
  rw [<- hcl, hsets, hvq, fw ho hqn, he, if_neg (by simp)]
 rw [hnd]
 generalize hst : eS (bU z q.name) = w
 have hu2 : ({ v with bz := w } : View).sets = z.sets := hsets
 cases hj : ((bC ([42] :: az (bU z q.name))).2 == 0) with
 | false =>
  have hw : w = [] := by rw [<- hst]; exact sr _ (by simpa using hj)
  rw [if_pos (by simp)]
  have h1 : j4 { v with bz := w } = false := by
   unfold j4
   rw [hw]
   have := DX ho v.q.type
   rw [<- hsets] at this
   exact decide_eq_false (by show ¬ (atI v.sets ⟨[], v.q.type⟩ >= 0); omega)
  have h2 : dw { v with bz := w } = false := by
   unfold dw
   rw [hw]
   have := DX ho 3
   rw [<- hsets] at this
   rw [decide_eq_false (show ¬ (atI v.sets ⟨[], 3⟩ >= 0) by omega)]; rfl
  have h3 : eU { v with bz := w } = false := by unfold eU; rw [hw]; rfl
  rw [h1, h2, h3]
  simp only [Bool.false_eq_true, if_false]
  have : gU { v with bz := w } = ⟨6, bj v.sets [] [cA v, cZ v.sets v.q.name, -1], []⟩ := by
   unfold gU
   rw [if_pos hw]; rfl
  rw [this, hsets]
  rw [hsets] at hproof
  have hp3 : bj z.sets [] [cA v, cZ z.sets v.q.name, -1] = bj z.sets [] [cA v, cZ z.sets v.q.name] := by
   rw [GG ho _ _ _ (by unfold cA; rw [hsets]; exact b5 _ _) (cC _ _) (by omega), w8 ho _ _ (by unfold cA; rw [hsets]; exact b5 _ _) (cC _ _)]
   unfold eE; rw [if_pos (by decide)]
  rw [hp3, hproof]
 | true =>
  rw [if_neg (by simp)]
  have hw : (bC ([42] :: az (bU z q.name))).1 = w := hst
  have hwv : af w = true := by
   rw [<- hst]
   unfold eS
   have hj0 : (bC ([42] :: az (bU z q.name))).2 = 0 := by simpa using hj
   unfold bC at hj0 ⊢
   split
   . rename_i h; exact (rj h).1
   . rename_i h; rw [if_neg h] at hj0; simp at hj0
  have hwne := fO hwv
  rw [hw]
  (try dsimp only)
  have h1 : j4 { v with bz := w } = decide (((aH [] z ⟨w, q.type⟩).length : Int) > 0) := by
   unfold j4; rw [rB]; show decide (atI v.sets ⟨w, v.q.type⟩ >= 0) = _; rw [hsets, hvq]
  have h2 : dw { v with bz := w } = (decide (((aH [] z ⟨w, 3⟩).length : Int) > 0) && (q.type != 8)) := by
   unfold dw; rw [rB]; show (decide (atI v.sets ⟨w, 3⟩ >= 0) && (v.q.type != 8)) = _; rw [hsets, hvq]
  have h3 : eU { v with bz := w } = bF z w := by
   unfold eU
   show (!(w == []) && exB v.sets w) = _
   rw [hsets, fw ho hwv]
   have : (w == []) = false := by simpa using hwne
   rw [this]; rfl
  rw [h1, h2, h3]
  cases hdw : decide (((aH [] z ⟨w, q.type⟩).length : Int) > 0) with
  | true =>
   simp only [↓reduceIte]
   show ((⟨2, aY (aH [] z ⟨w, q.type⟩) z q.name, []⟩ : Ans), (0 : Int)) = (⟨2, bj v.sets [] [atI v.sets ⟨w, v.q.type⟩, cZ v.sets v.q.name], []⟩, 0)
   rw [hsets, hvq, w8 ho _ _ (b5 _ _) (cC _ _), jr ho.rising, dX]
  | false =>
  simp only [Bool.false_eq_true, ↓reduceIte]
  cases haw : (decide (((aH [] z ⟨w, 3⟩).length : Int) > 0) && (q.type != 8)) with
  | true =>
   simp only [↓reduceIte]
   show ((⟨3, aY (aH [] z ⟨w, 3⟩) z q.name, []⟩ : Ans), (0 : Int)) = (⟨3, bj v.sets [] [atI v.sets ⟨w, 3⟩, cZ v.sets v.q.name], []⟩, 0)
   rw [hsets, hvq, w8 ho _ _ (b5 _ _) (cC _ _), jr ho.rising, dX]
  | false =>
  simp only [Bool.false_eq_true, ↓reduceIte]
  have hp3 : aY (aY (aH [] z ⟨z.apex, 4⟩) z q.name) z w = bj v.sets [] [cA v, cZ v.sets v.q.name, cZ v.sets w] := by
   rw [hsets, GG ho _ _ _ (by unfold cA; rw [hsets]; exact b5 _ _) (cC _ _) (cC _ _), jr ho.rising, jr ho.rising, dX]
   unfold cA
   rw [hsets, hvq, hva]
  cases hew : bF z w with
  | true =>
   simp only [Bool.false_eq_true, ↓reduceIte]; rw [hp3]
   unfold iL
   rw [h3, hew, if_pos rfl]
   rfl
  | false =>
   simp only [Bool.false_eq_true, ↓reduceIte]; rw [hp3]
   show _ = (gU { v with bz := w }, (0 : Int))
   unfold gU
   rw [if_neg hwne]
   rfl
end NP

set_option maxRecDepth 100000
namespace NP
open NQ Go
theorem xR (l : List Signed) : ∀ (ps seen : List Int), (bj l seen ps).length <= ps.length
 | [], _ => by simp [bj]
 | p :: t, seen => by
  have := xR l t (seen ++ [p])
  rw [bj]
  split
  . rw [List.length_cons]; omega
  . rw [List.length_cons, List.length_cons]; omega
theorem oO {l : List Signed} : ∀ {ps seen : List Int}, (∀ p ∈ ps, p < l.length) -> ∀ s ∈ bj l seen ps, ∃ p ∈ ps, p ∉ seen /\ 0 <= p /\ l[p.toNat]? = some s
 | [], _, _, s, hs => by simp [bj] at hs
 | p :: t, seen, hp, s, hs => by
  rw [bj] at hs
  split at hs
  . obtain ⟨q, h1, h2, h3⟩ := oO (fun q hq => hp q (List.mem_cons_of_mem _ hq)) s hs
    exact ⟨q, List.mem_cons_of_mem _ h1, fun e => h2 (List.mem_append.2 (.inl e)), h3⟩
  . rename_i hc
    simp only [Bool.or_eq_true, decide_eq_true_eq, List.contains_iff_mem, not_or] at hc
    have hlt := hp p (List.mem_cons_self ..)
    obtain ⟨x, hx⟩ : ∃ x, l[p.toNat]? = some x := ⟨_, List.getElem?_eq_getElem (by omega)⟩
    rw [hx] at hs
    rcases List.mem_cons.1 hs with e | hs
    . have e : s = x := e
      subst e
      exact ⟨p, List.mem_cons_self .., hc.2, by omega, hx⟩
    . obtain ⟨q, h1, h2, h3⟩ := oO (fun q hq => hp q (List.mem_cons_of_mem _ hq)) s hs
      exact ⟨q, List.mem_cons_of_mem _ h1, fun e => h2 (List.mem_append.2 (.inl e)), h3⟩
theorem lh (v : View) : (aK v).sets = v.sets := by unfold aK; split <;> rfl
theorem Ac {v : View} (hd : (gk v).length <= 900) : ∃ ps : List Int, (∀ p ∈ ps, p < v.sets.length) /\ ps.length <= 1000 /\ (cM v).sets = bj v.sets [] ps := by
 have e := lh v
 have hl := nv v (gk v)
 unfold cM
 split
 . rename_i h
   refine ⟨cT v, fun p hp => pT hp, ?_, ?_⟩
   . unfold cT; simp; omega
   . unfold gL; rw [if_pos h]
 split
 . exact ⟨_, by simp [b5], by simp, rfl⟩
 split
 . exact ⟨_, by simp [b5], by simp, rfl⟩
 split
 . rename_i h
   refine ⟨[cA v, cZ v.sets v.q.name], by simp [cA, b5, cC], by simp, ?_⟩
   unfold iS; rw [if_pos h]
 split
 . refine ⟨[_, _], ?_, by simp, by unfold ou; rw [e]⟩
   intro p hp; simp only [List.mem_cons, List.not_mem_nil, or_false] at hp
   rcases hp with rfl | rfl
   . exact b5 _ _
   . exact cC _ _
 split
 . refine ⟨[_, _], ?_, by simp, by unfold j5; rw [e]⟩
   intro p hp; simp only [List.mem_cons, List.not_mem_nil, or_false] at hp
   rcases hp with rfl | rfl
   . exact b5 _ _
   . exact cC _ _
 split
 . rename_i h
   refine ⟨[_, _, _], ?_, by simp, by unfold iL; rw [if_pos h, e]⟩
   intro p hp; simp only [List.mem_cons, List.not_mem_nil, or_false] at hp
   rcases hp with rfl | rfl | rfl
   . unfold cA; rw [e]; exact b5 _ _
   . exact cC _ _
   . exact cC _ _
 . refine ⟨[_, _, _], ?_, by simp, by unfold gU; rw [e]⟩
   intro p hp; simp only [List.mem_cons, List.not_mem_nil, or_false] at hp
   have hpos : (0 : Int) <= v.sets.length := by omega
   rcases hp with rfl | rfl | rfl
   . unfold cA; rw [e]; exact b5 _ _
   . exact cC _ _
   . split
     . omega
     . exact cC _ _
theorem uy {z : ao} (hf : cN z = true) (q : av) : ∃ ps : List Int, (∀ p ∈ ps, p < z.sets.length) /\ ps.length <= 1000 /\ (aZ z q).1.sets = bj z.sets [] ps := by
 have none : ∃ ps : List Int, (∀ p ∈ ps, p < z.sets.length) /\ ps.length <= 1000 /\ ([] : List Signed) = bj z.sets [] ps := ⟨[], by simp, by simp, rfl⟩
 unfold aZ
 split
 . exact none
 split
 . exact none
 split
 . exact none
 . refine Ac (v := im z q _ _) ?_
   unfold gk
   split
   . rename_i s hs
     have := ((bP hf).2 s (List.mem_of_getElem? hs)).1
     omega
   . simp
theorem AX {z : ao} (hf : cN z = true) (q : av) : ∀ s ∈ (aZ z q).1.sets, s ∈ z.sets := by
 obtain ⟨ps, h1, _, h3⟩ := uy hf q
 rw [h3]
 intro s hs
 obtain ⟨p, _, _, _, h⟩ := oO h1 s hs
 exact List.mem_of_getElem? h
theorem rA {z : ao} (hf : cN z = true) (q : av) : (aZ z q).1.sets.length <= 1000 := by
 obtain ⟨ps, h1, h2, h3⟩ := uy hf q
 rw [h3]
 have := xR z.sets ps []
 omega
theorem D5 {z : ao} (hf : cN z = true) (q : av) : ∀ s ∈ (aZ z q).1.sets, s.set.data.length <= 100000 /\ s.sigs.length <= 100000 := fun s hs => by
 have := (bP hf).2 s (AX hf q s hs)
 omega
end NP

set_option maxRecDepth 100000
namespace NP
open NQ Go
structure Use (z : ao) (q : av) : Prop where
 few : cN z = true
 val : aR z = true
 quest : aL q = true
 under : an q.name z.apex = true
theorem Use.name {z : ao} {q : av} (u : Use z q) : af q.name = true := by have := u.quest; unfold aL at this; simp only [Bool.and_eq_true] at this; exact this.1.1
theorem Use.ord {z : ao} {q : av} (u : Use z q) : Ordered z := aP u.val
def vw (z : ao) (q : av) : View := im z q (aN z q.name) (!(aN z q.name == []))
theorem Use.cut {z : ao} {q : av} (u : Use z q) : cY z q.name = (aN z q.name, !(aN z q.name == []), 0) := AN u.val u.name u.under
theorem Use.ans {z : ao} {q : av} (u : Use z q) : aZ z q = (cM (vw z q), 0) := by
 have hq := u.quest
 unfold aL at hq
 simp only [Bool.and_eq_true, decide_eq_true_eq] at hq
 unfold aZ
 rw [if_neg (by simp; omega), u.cut]
 rfl
theorem sm (z : ao) (q : av) : cF (vw z q) = (!(aN z q.name == []) && !((aN z q.name == q.name) && dM q)) := by
 unfold cF qH dM vw im
 dsimp only
 rw [Bool.beq_comm (a := q.name) (b := aN z q.name)]
 cases (aN z q.name == []) <;> cases (aN z q.name == q.name) <;> simp
theorem qI (v : View) : (cM v).kind = if cF v = true then 4 else if ml v = true then 1 else if jt v = true then 3 else if exB v.sets v.q.name = true then 5
 else if j4 (aK v) = true then 2 else if dw (aK v) = true then 3 else if eU (aK v) = true then 5 else 6 := by
 unfold cM
 split
 . rename_i h; unfold gL; rw [if_pos h]
 split
 . rfl
 split
 . rfl
 split
 . rename_i h; unfold iS; rw [if_pos h]
 split
 . rfl
 split
 . rfl
 split
 . rename_i h; unfold iL; rw [if_pos h]
 . rfl
theorem FQ (z : ao) (q : av) : ml (vw z q) = bl z.sets q := by
 have h := fc z.sets q
 show decide (atI z.sets q >= 0) = _
 cases hh : bl z.sets q with
 | true =>
  rw [hh] at h
  have : ¬ atI z.sets q < 0 := by simpa using h
  exact decide_eq_true (by omega)
 | false =>
  rw [hh] at h
  have : atI z.sets q < 0 := by simpa using h
  exact decide_eq_false (by omega)
theorem EW {z : ao} (ho : Ordered z) {q : av} {s : Signed} (hs : s ∈ z.sets) (hp : s.place = q.place) : bj z.sets [] [atI z.sets q] = [s] := by
 obtain ⟨k, t, h1, h2, h3⟩ := kB (gY.2 ⟨s, hs, hp⟩)
 have : t = s := RP.uniq ho.rising.pw (List.mem_of_getElem? h2) hs (h3.trans hp.symm)
 subst this
 rw [h1, bj]
 simp [h2, bj]
theorem Use.data {z : ao} {q : av} (u : Use z q) (hr : cF (vw z q) = false) {s : Signed} (hs : s ∈ z.sets) (hp : s.place = q.place) : (aZ z q).1 = ⟨1, [s], []⟩ := by
 rw [u.ans]
 show cM (vw z q) = _
 unfold cM
 rw [if_neg (by simp [hr]), if_pos (by rw [FQ]; exact gY.2 ⟨s, hs, hp⟩)]
 unfold rp
 have := EW u.ord hs hp
 show (⟨1, bj z.sets [] [atI z.sets q], []⟩ : Ans) = _
 rw [this]
theorem Use.find {z : ao} {q : av} (u : Use z q) : ∃ s has, rm z q = (s, has, 0) /\ has = bl z.sets q /\ (has = true -> s ∈ z.sets /\ s.place = q.place) := by
 cases hh : bl z.sets q with
 | true =>
  obtain ⟨s, h1, h2, h3⟩ := H4 u.val u.quest hh
  exact ⟨s, true, h3, rfl, fun _ => ⟨h1, h2⟩⟩
 | false => exact ⟨_, false, FD u.val u.quest hh, rfl, fun h => by cases h⟩
end NP

set_option maxRecDepth 100000
namespace NP
open NQ Go
theorem Gm {v : View} (h : cF v = false) : (cM v).cut = [] := by
 unfold cM
 rw [if_neg (by simp [h])]
 repeat' split
 all_goals first | rfl | skip
 . unfold iS; split <;> rfl
 . unfold iL; split <;> rfl
theorem Use.Hh {z : ao} {q : av} (u : Use z q) (hr : cF (vw z q) = false) : ((aZ z q).1.kind == 4) = false /\ (aZ z q).1.cut = [] := by
 rw [u.ans]
 refine ⟨?_, Gm hr⟩
 show ((cM (vw z q)).kind == 4) = false
 rw [qI, hr]
 simp only [Bool.false_eq_true, ↓reduceIte]
 repeat' split
 all_goals rfl
theorem Use.Jb {z : ao} {q : av} (u : Use z q) (hr : cF (vw z q) = true) : ∃ s0 R, s0 ∈ z.sets /\ s0.place = (aN z q.name, 2) /\ (aZ z q).1 = ⟨4, s0 :: R, aN z q.name⟩ /\
 ∀ s ∈ R, (s.set.type = 6 /\ s.set.name = aN z q.name) \/ (s.set.type = 8 /\ s.set.name = aN z q.name) \/ (s.set.type = 1 /\ aM s.set.name (aN z q.name) = (true, 0) /\ s0.set.data.any (fun d => d.text == s.set.name) = true) := by
 have hne : aN z q.name ≠ [] := by
  intro e; rw [sm, e] at hr; cases hr
 obtain ⟨hcv, hcut⟩ := nz u.ord hne
 have ho := u.ord
 obtain ⟨k, s0, h1, h2, h3⟩ := kB hcut
 have hm0 := List.mem_of_getElem? h2
 have hserv : cK (vw z q) = ((k : Nat) : Int) := h1
 have hsd : gk (vw z q) = s0.set.data := by
  unfold gk
  rw [hserv]
  show (match z.sets[((k : Nat) : Int).toNat]? with | some s => s.set.data | none => []) = _
  rw [show ((k : Nat) : Int).toNat = k by simp, h2]
 have hlt : ∀ p ∈ cT (vw z q), p < z.sets.length := fun p hp => pT (v := vw z q) hp
 have e1 : bj z.sets [] (cT (vw z q)) = s0 :: bj z.sets [cK (vw z q)] (fo (vw z q) :: cQ (vw z q) (gk (vw z q))) := by
  unfold cT
  rw [show [cK (vw z q), fo (vw z q)] ++ cQ (vw z q) (gk (vw z q)) = cK (vw z q) :: (fo (vw z q) :: cQ (vw z q) (gk (vw z q))) from rfl, bj, if_neg (by rw [hserv]; simp)]
  rw [hserv]
  simp [h2]
 refine ⟨s0, bj z.sets [cK (vw z q)] (fo (vw z q) :: cQ (vw z q) (gk (vw z q))), hm0, h3, ?_, fun s hs => ?_⟩
 . rw [u.ans]
   show cM (vw z q) = _
   unfold cM
   rw [if_pos hr]
   unfold gL
   rw [if_pos hr]
   show (⟨4, bj z.sets [] (cT (vw z q)), aN z q.name⟩ : Ans) = _
   rw [e1]
 . obtain ⟨p, hp1, hp2, hp3, hp4⟩ := oO (fun p hp => hlt p (by unfold cT; exact List.mem_cons_of_mem _ hp)) s hs
   have hsm := List.mem_of_getElem? hp4
   have atp : ∀ q' : av, p = atI z.sets q' -> s.place = q'.place := fun q' e => by
    have hh : bl z.sets q' = true := by
     have := fc z.sets q'
     cases hc : bl z.sets q' with
     | true => rfl
     | false => rw [hc] at this; simp at this; omega
    obtain ⟨j, t, a1, a2, a3⟩ := kB hh
    rw [a1] at e
    have : p.toNat = j := by omega
    rw [this, a2] at hp4; cases hp4; exact a3
   rcases List.mem_cons.1 hp1 with hp | hp
   . unfold fo at hp
     split at hp
     . have := atp ⟨aN z q.name, 8⟩ hp
       exact .inr (.inl ⟨congrArg Prod.snd this, congrArg Prod.fst this⟩)
     . have := atp ⟨aN z q.name, 6⟩ hp
       exact .inl ⟨congrArg Prod.snd this, congrArg Prod.fst this⟩
   . unfold cQ at hp
     obtain ⟨d, hd, hx⟩ := List.mem_flatMap.1 hp
     split at hx
     . rename_i hu
       simp at hx
       have := atp ⟨d.text, 1⟩ hx
       have hn : s.set.name = d.text := congrArg Prod.fst this
       refine .inr (.inr ⟨congrArg Prod.snd this, ?_, ?_⟩)
       . have hv := ho.name s hsm
         have hu' : (aM d.text (aN z q.name)).1 = true := hu
         rw [<- hn] at hu'
         unfold aM at hu' ⊢
         rw [if_pos ⟨hv, hcv⟩] at hu' ⊢
         simp only at hu'
         rw [hu']
       . rw [hsd] at hd
         exact List.any_eq_true.2 ⟨d, hd, by rw [hn]; simp⟩
     . cases hx
end NP

set_option maxRecDepth 100000
namespace NP
open NQ Go
theorem CL {m : Bs} (h : eS m ≠ []) : cO (eS m) = true := by
 unfold eS at h ⊢
 unfold bC at h ⊢
 split
 . show cO (nameOf ([42] :: az m)) = true
   rw [vV (by simp)]
   cases az m with
   | nil => rfl
   | cons x t => rw [cV _ _ (by simp)]; rfl
 . rename_i hc; rw [if_neg hc] at h; exact absurd rfl h
theorem pA {v : View} (hx : exB v.sets v.q.name = false) : (aK v).bz = eS (js v.apex v.sets v.q.name) := by
 unfold aK; rw [if_neg (by simp [hx])]
theorem EE (n : Bs) : eS n = [] \/ af (eS n) = true := by
 unfold eS
 unfold bC
 split
 . rename_i h; exact .inr (rj h).1
 . exact .inl rfl
theorem Use.bz {z : ao} {q : av} (u : Use z q) (hk : (aZ z q).1.kind = 2) : cF (vw z q) = false /\ bF z q.name = false /\ ∃ s0 R, (aZ z q).1.sets = s0 :: R /\ cO s0.set.name = true /\ s0.set.type = q.type := by
 have ho := u.ord
 rw [u.ans] at hk ⊢
 have hk' : (cM (vw z q)).kind = 2 := hk
 rw [qI] at hk'
 cases hr : cF (vw z q) with
 | true => rw [hr] at hk'; simp at hk'
 | false =>
 cases hd : ml (vw z q) with
 | true => rw [hr, hd] at hk'; simp at hk'
 | false =>
 cases ha : jt (vw z q) with
 | true => rw [hr, hd, ha] at hk'; simp at hk'
 | false =>
 cases hx : exB (vw z q).sets (vw z q).q.name with
 | true => rw [hr, hd, ha, hx] at hk'; simp at hk'
 | false =>
 cases hw : j4 (aK (vw z q)) with
 | false =>
  rw [hr, hd, ha, hx, hw] at hk'
  simp only [Bool.false_eq_true, ↓reduceIte] at hk'
  exfalso
  revert hk'
  repeat' split
  all_goals omega
 | true =>
 have hx' : bF z q.name = false := by rw [<- fw ho u.name]; exact hx
 refine ⟨rfl, hx', ?_⟩
 have hans : cM (vw z q) = ou (aK (vw z q)) := by
  unfold cM
  rw [if_neg (by simp [hr]), if_neg (by simp [hd]), if_neg (by simp [ha]), if_neg (by simp [hx]), if_pos hw]
 have hq : (aK (vw z q)).q = q := by unfold aK; split <;> rfl
 have hs : (aK (vw z q)).sets = z.sets := lh _
 have hat : 0 <= atI z.sets ⟨(aK (vw z q)).bz, q.type⟩ := by
  unfold j4 at hw
  rw [hs, hq] at hw
  simpa using hw
 obtain ⟨k, s, h1, h2, h3⟩ := kB (l := z.sets) (q := ⟨(aK (vw z q)).bz, q.type⟩) (by
  have := fc z.sets ⟨(aK (vw z q)).bz, q.type⟩
  cases hh : bl z.sets ⟨(aK (vw z q)).bz, q.type⟩ with
  | true => rfl
  | false => rw [hh] at this; simp at this; omega)
 have hsn : s.set.name = (aK (vw z q)).bz := congrArg Prod.fst h3
 have hst : s.set.type = q.type := congrArg Prod.snd h3
 refine ⟨s, bj z.sets ([] ++ [((k : Nat) : Int)]) [cZ z.sets q.name], ?_, ?_, hst⟩
 . show (cM (vw z q)).sets = _
   rw [hans]
   unfold ou
   rw [hs, hq, h1]
   show bj z.sets [] [((k : Nat) : Int), cZ z.sets q.name] = _
   rw [bj, if_neg (by simp)]
   simp [h2]
 . rw [hsn, pA hx]
   refine CL ?_
   rw [<- pA hx, <- hsn]
   exact fO (ho.name s (List.mem_of_getElem? h2))
theorem Use.none {z : ao} {q : av} (u : Use z q) (hk : (aZ z q).1.kind = 6) : bF z q.name = false /\ aN z q.name = [] /\ ((aK (vw z q)).bz = [] \/ bF z (aK (vw z q)).bz = false) := by
 have ho := u.ord
 rw [u.ans] at hk
 have hk' : (cM (vw z q)).kind = 6 := hk
 rw [qI] at hk'
 cases hr : cF (vw z q) with
 | true => rw [hr] at hk'; simp at hk'
 | false =>
 cases hd : ml (vw z q) with
 | true => rw [hr, hd] at hk'; simp at hk'
 | false =>
 cases ha : jt (vw z q) with
 | true => rw [hr, hd, ha] at hk'; simp at hk'
 | false =>
 cases hx : exB (vw z q).sets (vw z q).q.name with
 | true => rw [hr, hd, ha, hx] at hk'; simp at hk'
 | false =>
 have hx' : bF z q.name = false := by rw [<- fw ho u.name]; exact hx
 cases hw : j4 (aK (vw z q)) with
 | true => rw [hr, hd, ha, hx, hw] at hk'; simp at hk'
 | false =>
 cases hwa : dw (aK (vw z q)) with
 | true => rw [hr, hd, ha, hx, hw, hwa] at hk'; simp at hk'
 | false =>
 cases hwn : eU (aK (vw z q)) with
 | true => rw [hr, hd, ha, hx, hw, hwa, hwn] at hk'; simp at hk'
 | false =>
 refine ⟨hx', ?_, ?_⟩
 . cases hc : (aN z q.name == []) with
   | true => simpa using hc
   | false =>
    have hne : aN z q.name ≠ [] := by simpa using hc
    rw [sm, hc] at hr
    simp only [Bool.not_false, Bool.true_and, Bool.not_eq_false', Bool.and_eq_true, beq_iff_eq] at hr
    obtain ⟨_, h2⟩ := nz ho hne
    have := mh h2
    rw [hr.1] at this
    rw [hx'] at this; cases this
 . unfold eU at hwn
   rw [lh] at hwn
   cases hw0 : ((aK (vw z q)).bz == []) with
   | true => exact .inl (by simpa using hw0)
   | false =>
    rw [hw0] at hwn
    have hwne : (aK (vw z q)).bz ≠ [] := by simpa using hw0
    have hwv : af (aK (vw z q)).bz = true := by
     rw [pA hx] at hwne ⊢
     have := EE (js (vw z q).apex (vw z q).sets (vw z q).q.name)
     exact this.resolve_left hwne
    refine .inr ?_
    rw [<- fw ho hwv]
    have h5 : (!false && exB (vw z q).sets (aK (vw z q)).bz) = false := hwn
    rw [Bool.not_false, Bool.true_and] at h5
    exact h5
end NP

set_option maxRecDepth 100000
namespace NP
open NQ Go
end NP
namespace Go.Proofs.YtnbnldnfkikakaaGreatDoor
open NQ Go NP Go.RowKit
theorem tF (a b : Ans) (ha : a.sets.length <= 100000) (hs : ∀ s ∈ a.sets, s.set.data.length <= 100000 /\ s.sigs.length <= 100000) : NQ.Fn cx 18 [.agg (cB a), .agg (cB b)] (.d (.bool (decide (a = b)))) [] := by
 refine aq ay mixed Tryz.func18 (by kernel_rfl) rfl (Nat.le_of_ble_eq_true rfl) ?_; conv => whnf
 (refine ⟨_, _, zB a.sets b.sets ha hs, ?_⟩; conv => whnf)
 refine ab (fun h1 => ?_) (fun h1 => ?_) <;> (rw [h1]; conv => whnf)
 . refine ab (fun h2 => ?_) (fun h2 => ?_) <;> (rw [h2]; conv => whnf)
   . refine ae rfl ?_
     have e1 : a.sets = b.sets := by simpa using h1
     have e2 : a.kind = b.kind := by simpa using h2
     show AV.d (D.bool (a.cut == b.cut)) = _
     congr 2
     obtain ⟨ka, sa, ca⟩ := a
     obtain ⟨kb, sb, cb⟩ := b
     simp only at e1 e2
     subst e1; subst e2
     by_cases e : ca = cb
     . subst e; rw [decide_eq_true rfl]; simp
     . rw [decide_eq_false (fun h => e (by cases h; rfl))]; simpa using e
   . exact ae rfl (jC fun e => by rw [e] at h2; simp at h2)
 . exact ae rfl (jC fun e => by rw [e] at h1; simp at h1)
end Go.Proofs.YtnbnldnfkikakaaGreatDoor
