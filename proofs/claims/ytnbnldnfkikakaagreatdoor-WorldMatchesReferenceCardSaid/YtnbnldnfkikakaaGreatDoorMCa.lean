/-
  Texts of the proof of the law WorldMatchesReference, merged in build order.
-/
import Derived.Test.YtnbnldnfkikakaaGreatDoorMVa
import Derived.Test.YtnbnldnfkikakaaGreatDoorTyM
import Derived.WalkKit
import Derived.Deep.LoopGhost
import Derived.Deep.RegionLaw
import Derived.Lib.Walk
import Derived.Lib.SliceRun
import Derived.Lib.SlicesDelete
import Derived.Shelf.RegionOpenPlain
import Derived.Lib.Hide
import Derived.Test.YtnbnldnfkikakaaGreatDoorQzM
import Derived.Lib.AppendZerosOnto
import Derived.Laws.NewBlocks
import Derived.Shelf.Spec.SlicesInsert
import Derived.Test.YtnbnldnfkikakaaGreatDoorMQt
set_option linter.all false
set_option maxRecDepth 100000
namespace NP
open NQ Go
def pv : Signed := ⟨⟨[], 0, 0, []⟩, []⟩
def Small (s : Signed) : Prop := s.set.data.length <= 100000 /\ s.sigs.length <= 100000
def rm (z : ao) (q : av) : Signed × Bool × Int :=
 if (!aL q || !aR z) = true then (pv, false, 1) else if (!bl z.sets q) = true then (pv, false, 0) else ((z.sets[posOf z.sets q]?).getD pv, true, 0)
theorem qd {l : List Sig} {a : Bs} (h : dV l a = true) : l.length <= 6 := by
 simp [dV] at h; omega
theorem tC {s : gI} (h : df s = true) : s.data.length <= 8 := by
 unfold df at h; simp only [Bool.and_eq_true, Bool.not_eq_true', Bool.or_eq_false_iff, Bool.not_eq_false'] at h; have := h.1.1.2; simp [within] at this; omega
theorem nG {z : ao} (h : aR z = true) : ∀ s ∈ z.sets, Small s := fun s hs => by
 have ho := aP h
 refine ⟨by have := tC (ho.set s hs); omega, ?_⟩
 simp only [aR, Bool.and_eq_true] at h
 have hf := h.2.2
 simp only [ln, List.all_eq_true] at hf
 obtain ⟨i, hi, rfl⟩ := List.getElem_of_mem hs
 have := hf i (List.mem_range.2 hi)
 simp only [jD, List.getElem?_eq_getElem hi] at this
 have := qd this
 omega
end NP
namespace Go.Proofs.YtnbnldnfkikakaaGreatDoor
open NQ Go NP Go.RowKit
theorem yX (rows : List (List D)) (hl : rows.length <= 100000) : NQ.Fn cx 132 [.slice 3 rows] (.d (.slice 3 rows)) [] := by
 refine aq ay mixed Tryz.func132 (by kernel_rfl) rfl (Nat.le_of_ble_eq_true rfl) ?_; conv => whnf
 refine ⟨fun h => ?_, ?_⟩
 . refine ae rfl ?_
   rw [List.isEmpty_iff.1 h]; rfl
 . conv => whnf
   refine ⟨by (show 0 + rows.length <= _; omega), by (show (0 + rows.length) * 32 <= _; omega), ?_⟩
   conv => whnf
   exact ae rfl rfl
theorem yW (rows : List (List D)) (hl : rows.length <= 100000) : NQ.Fn cx 133 [.slice 6 rows] (.d (.slice 6 rows)) [] := by
 refine aq ay mixed Tryz.func133 (by kernel_rfl) rfl (Nat.le_of_ble_eq_true rfl) ?_; conv => whnf
 refine ⟨fun h => ?_, ?_⟩
 . refine ae rfl ?_
   rw [List.isEmpty_iff.1 h]; rfl
 . conv => whnf
   refine ⟨by (show 0 + rows.length <= _; omega), by (show (0 + rows.length) * 56 <= _; omega), ?_⟩
   conv => whnf
   exact ae rfl rfl
end Go.Proofs.YtnbnldnfkikakaaGreatDoor

set_option maxRecDepth 100000
namespace NP
open NQ Go
def qOf (s : Signed) : av := ⟨s.set.name, s.set.type⟩
def Jh (l : List Signed) (i : Nat) (s : Signed) : List Signed := l.take i ++ [s] ++ l.drop i
def IJ (l : List Signed) (s : Signed) : List Signed := if bl l (qOf s) = true then l.set (posOf l (qOf s)) s else Jh l (posOf l (qOf s)) s
end NP
namespace Go.Proofs.YtnbnldnfkikakaaGreatDoor
open NQ Go NP Go.RowKit
end Go.Proofs.YtnbnldnfkikakaaGreatDoor

set_option maxRecDepth 100000
namespace NP
open NQ Go
theorem rh {s : Bs} (h : af s = true) : (az s).length <= 8 := by
 have := lC h
 simp [okL] at this
 exact this.1
theorem fO {s : Bs} (h : af s = true) : s ≠ [] := by rintro rfl; revert h; decide
end NP

set_option maxRecDepth 100000
namespace NP
open NQ Go
theorem uE {z : ao} {i : Nat} {s : Signed} (h : z.sets[i]? = some s) (ho : Ordered z) : (bV z)[i]? = some (spec (bc z) s.set.name) := by
 rw [<- qF ho, qG ho, List.getElem?_map, h]; rfl
theorem FV {z : ao} (hv : aR z = true) {s : Signed} (hs : s ∈ z.sets) : iG s (spec (bc z) s.set.name) = false := by
 have ho := aP hv
 obtain ⟨i, hi⟩ := List.getElem?_of_mem hs
 simp only [aR, Bool.and_eq_true] at hv
 have hc := hv.2.1.1.2
 simp only [lu, List.all_eq_true] at hc
 have := hc i (List.mem_range.2 (List.getElem?_eq_some_iff.1 hi).1)
 simp only [cutAt, hi, uE hi ho] at this
 simpa using this
theorem jY (apex c : Bs) : ∀ (l : List Signed), c ∈ bI apex l ↔ ∃ s ∈ l, cL apex s = true /\ s.set.name = c
 | [] => by simp [bI]
 | s :: t => by
  have ih := jY apex c t
  unfold bI
  split
  . rename_i h
    rw [List.mem_cons, ih]
    constructor
    . rintro (rfl | ⟨x, hx, k⟩)
      . exact ⟨s, List.mem_cons_self .., h, rfl⟩
      . exact ⟨x, List.mem_cons_of_mem _ hx, k⟩
    . rintro ⟨x, hx, k1, k2⟩
      rcases List.mem_cons.1 hx with rfl | hx
      . exact .inl k2.symm
      . exact .inr ⟨x, hx, k1, k2⟩
  . rename_i h
    rw [ih]
    constructor
    . rintro ⟨x, hx, k⟩; exact ⟨x, List.mem_cons_of_mem _ hx, k⟩
    . rintro ⟨x, hx, k1, k2⟩
      rcases List.mem_cons.1 hx with rfl | hx
      . exact absurd k1 h
      . exact ⟨x, hx, k1, k2⟩
theorem Cz {s : Bs} (h : af s = true) : (s == []) = false := by have := fO h; simpa using this
theorem yL {z : ao} (hv : aR z = true) {c : Bs} (hc : c ∈ bI z.apex z.sets) : c ∈ bc z := by
 have ho := aP hv
 obtain ⟨hA, ha, hcov⟩ := iX ho
 obtain ⟨s, hs, hcut, rfl⟩ := (jY _ _ _).1 hc
 obtain ⟨g, hg, hu⟩ := hcov _ hc
 have hsp := jP hA ha hg hu
 have hr := FV hv hs
 rw [hsp] at hr
 have ht : s.set.type = 2 := by simp [cL] at hcut; exact hcut.1
 unfold iG at hr
 rw [if_neg (by rw [Cz (mg ho hg)]; exact Bool.false_ne_true)] at hr
 split at hr
 . rename_i e; rw [<- beq_iff_eq.1 e]; exact hg
 . rw [ht] at hr; cases hr
theorem AH {z : ao} {n : Bs} (hne : n ≠ z.apex) : bl z.sets ⟨n, 2⟩ = true ↔ n ∈ bI z.apex z.sets := by
 rw [jY]
 simp only [bl, List.any_eq_true, is, Bool.and_eq_true, beq_iff_eq, cL, Bool.not_eq_true', beq_eq_false_iff_ne]
 constructor
 . rintro ⟨s, hs, h1, h2⟩; exact ⟨s, hs, ⟨h2, by rw [h1]; exact hne⟩, h1⟩
 . rintro ⟨s, hs, ⟨h1, _⟩, h2⟩; exact ⟨s, hs, h2, h1⟩
theorem nH {a b c : Bs} (h : an a b = true) (k : an b c = true) : an a c = true := by
 rw [cJ] at *; exact k.trans h
theorem tr {a b : Bs} (h : an a b = true) (k : an b a = true) : a = b := by
 rw [cJ] at *
 exact o9 ((k.eq_of_length (Nat.le_antisymm k.length_le h.length_le)))
theorem xt {n c : Bs} (hn : af n = true) (h : an n c = true) (hne : n ≠ c) : an (cj n) c = true := (kG hn h hne).2.1
theorem xT {n : Bs} (hn : af n = true) : an n (cj n) = true := by
 unfold an; rw [rU hn]; exact List.isSuffixOf_iff_suffix.2 (List.tail_suffix _)
theorem oY {z : ao} : ∀ {f : Nat} {n c : Bs}, af n = true -> lv z f n = some c -> c ∈ bI z.apex z.sets /\ an n c = true
 | 0, n, c, _, h => by simp [lv] at h
 | f + 1, n, c, hv, h => by
  unfold lv at h
  split at h
  . cases h
  . rename_i hne
    split at h
    . rename_i hh; cases h; exact ⟨(AH hne).1 hh, er n⟩
    . obtain ⟨h1, h2⟩ := oY (eL hv) h
      exact ⟨h1, nH (xT hv) h2⟩
theorem uh {z : ao} (ho : Ordered z) : ∀ {f : Nat} {n : Bs}, af n = true -> an n z.apex = true -> f = (az n).length + 1 -> lv z f n = none -> ∀ c ∈ bI z.apex z.sets, an n c = false
 | 0, n, _, _, hf, _ => by omega
 | f + 1, n, hv, hu, hf, h => by
  intro c hc
  obtain ⟨s, hs, hcut, hnm⟩ := (jY _ _ _).1 hc
  have hca : an c z.apex = true := by
   have := ho.under s hs
   unfold aM at this; rw [if_pos ⟨ho.name s hs, ho.apex⟩] at this; rw [<- hnm]; exact this
  have hne' : c ≠ z.apex := by simp [cL] at hcut; rw [<- hnm]; exact hcut.2
  unfold lv at h
  split at h
  . rename_i e
    cases hun : an n c with
    | false => rfl
    | true => rw [e] at hun; exact absurd (tr hca hun) hne'
  . rename_i hne
    split at h
    . cases h
    . rename_i hh
      obtain ⟨_, k2, k3⟩ := kG hv hu hne
      have ih := uh ho (eL hv) k2 (by omega) h c hc
      cases hun : an n c with
      | false => rfl
      | true =>
       by_cases e : n = c
       . subst e; exact absurd ((AH hne).2 hc) hh
       . rw [xt hv hun e] at ih; cases ih
theorem DO {z : ao} (hv : aR z = true) {n : Bs} (hn : af n = true) (hu : an n z.apex = true) :
 (qA z n = none /\ spec (bc z) n = []) \/ ∃ c, qA z n = some c /\ spec (bc z) n = c /\ c ∈ bc z /\ c ≠ [] := by
 have ho := aP hv
 obtain ⟨hA, ha, _⟩ := iX ho
 cases h : qA z n with
 | none => exact .inl ⟨rfl, ng fun c hc => uh ho hn hu rfl h c (mP hc)⟩
 | some c =>
  obtain ⟨h1, h2⟩ := oY hn h
  have h3 := yL hv h1
  exact .inr ⟨c, rfl, jP hA ha h3 h2, h3, fO (mg ho h3)⟩
theorem CR {z : ao} (ho : Ordered z) {s : Signed} (hs : s ∈ z.sets) : an s.set.name z.apex = true := by
 have := ho.under s hs
 unfold aM at this; rw [if_pos ⟨ho.name s hs, ho.apex⟩] at this; exact this
end NP

set_option maxRecDepth 100000
namespace NP
open NQ Go
theorem yM (p : Bs × Int) : cpl p p = 0 := (fX.zero _ _).2 rfl
theorem iH {a b : Bs × Int} (h : cpl a b < 0) : a ≠ b := fun e => by subst e; rw [yM] at h; omega
theorem F0 {a b : Bs × Int} (h : cpl a b < 0) (k : cpl b a < 0) : False := by have := fX.anti a b; omega
abbrev RP (l : List Signed) : Prop := l.Pairwise fun a b => cpl a.place b.place < 0
theorem cy.pw : ∀ {l : List Signed}, cy l -> RP l
 | [], _ => List.Pairwise.nil
 | x :: t, h => List.Pairwise.cons (jS h) h.tail.pw
theorem RP.rising : ∀ {l : List Signed}, RP l -> cy l
 | [], _ => trivial
 | [_], _ => trivial
 | a :: b :: t, h => ⟨(List.pairwise_cons.1 h).1 b (List.mem_cons_self ..), RP.rising (List.pairwise_cons.1 h).2⟩
theorem RP.ext : ∀ {a b : List Signed}, RP a -> RP b -> (∀ x, x ∈ a ↔ x ∈ b) -> a = b
 | [], [], _, _, _ => rfl
 | [], y :: b, _, _, h => by have := (h y).2 (List.mem_cons_self ..); cases this
 | x :: a, [], _, _, h => by have := (h x).1 (List.mem_cons_self ..); cases this
 | x :: a, y :: b, ha, hb, h => by
  obtain ⟨a1, a2⟩ := List.pairwise_cons.1 ha
  obtain ⟨b1, b2⟩ := List.pairwise_cons.1 hb
  have hxy : x = y := by
   rcases List.mem_cons.1 ((h x).1 (List.mem_cons_self ..)) with e | hx
   . exact e
   . rcases List.mem_cons.1 ((h y).2 (List.mem_cons_self ..)) with e | hy
     . exact e.symm
     . exact (F0 (b1 x hx) (a1 y hy)).elim
  subst hxy
  congr 1
  refine RP.ext a2 b2 fun z => ⟨fun hz => ?_, fun hz => ?_⟩
  . rcases List.mem_cons.1 ((h z).1 (List.mem_cons_of_mem _ hz)) with rfl | hz'
    . exact (iH (a1 _ hz) rfl).elim
    . exact hz'
  . rcases List.mem_cons.1 ((h z).2 (List.mem_cons_of_mem _ hz)) with rfl | hz'
    . exact (iH (b1 _ hz) rfl).elim
    . exact hz'
theorem RP.uniq : ∀ {l : List Signed}, RP l -> ∀ {a b : Signed}, a ∈ l -> b ∈ l -> a.place = b.place -> a = b
 | [], _, _, _, ha, _, _ => by cases ha
 | x :: l, h, a, b, ha, hb, e => by
  obtain ⟨h1, h2⟩ := List.pairwise_cons.1 h
  rcases List.mem_cons.1 ha with ha' | ha' <;> rcases List.mem_cons.1 hb with hb' | hb'
  . rw [ha', hb']
  . subst ha'; exact (iH (h1 b hb') e).elim
  . subst hb'; exact (iH (h1 a ha') e.symm).elim
  . exact RP.uniq h2 ha' hb' e
theorem gY {l : List Signed} {q : av} : bl l q = true ↔ ∃ s ∈ l, s.place = q.place := by
 simp only [bl, List.any_eq_true, jo]
def rem (q : av) (l : List Signed) : List Signed := l.filter fun x => !is q x
theorem vE {s : gI} (h : df s = true) : 1 <= s.type /\ s.type <= 8 := by
 unfold df at h; simp only [Bool.and_eq_true, Bool.not_eq_true', Bool.or_eq_false_iff, Bool.not_eq_false'] at h
 have := h.1.1.1.1.2
 simp [within] at this; exact this
theorem wC {z : ao} (ho : Ordered z) : aliases z = true ↔ ∀ s ∈ z.sets, ∀ x ∈ z.sets, s.set.type = 3 -> x.set.name = s.set.name -> x.set.type = 3 \/ x.set.type = 8 := by
 unfold aliases
 rw [List.all_eq_true]
 constructor
 . intro h s hs x hx h3 hn
   obtain ⟨i, hi⟩ := List.getElem?_of_mem hs
   obtain ⟨j, hj⟩ := List.getElem?_of_mem hx
   have hil := (List.getElem?_eq_some_iff.1 hi).1
   have hjl := (List.getElem?_eq_some_iff.1 hj).1
   obtain ⟨p, hp⟩ : ∃ p, z.sets[i - 1]? = some p := ⟨_, List.getElem?_eq_getElem (by omega)⟩
   have hok := h i (List.mem_range.2 hil)
   refine Decidable.byContradiction fun hno => ?_
   have hne3 : x.set.type ≠ 3 := fun e => hno (.inl e)
   have hne8 : x.set.type ≠ 8 := fun e => hno (.inr e)
   have hbad : kD z i = false := by
    refine (kX hi hp).2 ⟨h3, ?_⟩
    rcases Nat.lt_trichotomy j i with hlt | heq | hgt
    . left
      refine ⟨by omega, ?_⟩
      rcases Nat.lt_or_eq_of_le (show j <= i - 1 by omega) with k | k
      . have a1 := (gr (dU ho.rising k hj hp)).1
        have a2 := (gr (dU ho.rising (show i - 1 < i by omega) hp hi)).1
        rw [hn] at a1
        exact (Cl a1 a2).symm
      . rw [<- k, hj] at hp; cases hp; exact hn
    . subst heq; rw [hi] at hj; cases hj; exact absurd h3 hne3
    . right
      rcases Nat.lt_or_eq_of_le (show i + 1 <= j by omega) with k | k
      . obtain ⟨y, hy⟩ : ∃ y, z.sets[i + 1]? = some y := ⟨_, List.getElem?_eq_getElem (by omega)⟩
        have a1 := gr (dU ho.rising k hy hj)
        have a2 := (gr (dU ho.rising (show i < i + 1 by omega) hi hy)).1
        have hyn : y.set.name = s.set.name := by
         have := a1.1; rw [hn] at this; exact Cl this a2
        refine ⟨y, hy, hyn, ?_⟩
        have := a1.2 (hyn.trans hn.symm)
        have := (vE (ho.set x hx)).2
        omega
      . exact ⟨x, by rw [k]; exact hj, hn, hne8⟩
   rw [hbad] at hok; cases hok
 . intro h i hi
   have hil := List.mem_range.1 hi
   obtain ⟨s, hs⟩ : ∃ s, z.sets[i]? = some s := ⟨_, List.getElem?_eq_getElem hil⟩
   obtain ⟨p, hp⟩ : ∃ p, z.sets[i - 1]? = some p := ⟨_, List.getElem?_eq_getElem (by omega)⟩
   cases hb : kD z i with
   | true => rfl
   | false =>
    obtain ⟨h3, k⟩ := (kX hs hp).1 hb
    have hsm := List.mem_of_getElem? hs
    rcases k with ⟨k1, k2⟩ | ⟨x, k1, k2, k3⟩
    . have := (gr (dU ho.rising (show i - 1 < i by omega) hp hs)).2 k2
      rcases h s hsm p (List.mem_of_getElem? hp) h3 k2 with e | e <;> omega
    . have := (gr (dU ho.rising (show i < i + 1 by omega) hs k1)).2 k2.symm
      rcases h s hsm x (List.mem_of_getElem? k1) h3 k2 with e | e
      . omega
      . exact absurd e k3
theorem jA {α : Type} {l : List α} {p : Nat -> Bool} {q : α -> Bool} (h : ∀ i s, l[i]? = some s -> p i = q s) : (List.range l.length).all p = true ↔ ∀ s ∈ l, q s = true := by
 rw [List.all_eq_true]
 constructor
 . intro k s hs
   obtain ⟨i, hi⟩ := List.getElem?_of_mem hs
   rw [<- h i s hi]
   exact k i (List.mem_range.2 (List.getElem?_eq_some_iff.1 hi).1)
 . intro k i hi
   have hi := List.mem_range.1 hi
   rw [h i _ (List.getElem?_eq_getElem hi)]
   exact k _ (List.getElem_mem hi)
theorem Ordered.bool {z : ao} (h : Ordered z) : ordered z = true := by
 unfold ordered
 have hall : (List.range z.sets.length).all (nk z) = true := by
  rw [List.all_eq_true]
  intro i hi
  have hi := List.mem_range.1 hi
  obtain ⟨s, hs⟩ : ∃ s, z.sets[i]? = some s := ⟨_, List.getElem?_eq_getElem hi⟩
  obtain ⟨p, hp⟩ : ∃ p, z.sets[i - 1]? = some p := ⟨_, List.getElem?_eq_getElem (by omega)⟩
  have hsm := List.mem_of_getElem? hs
  have hpm := List.mem_of_getElem? hp
  rw [mH hs hp, jm, h.set s hsm, h.under s hsm, oZ _ _ (h.name p hpm) (h.name s hsm)]
  by_cases h0 : i = 0
  . subst h0; rfl
  . have := dU h.rising (show i - 1 < i by omega) hp hs
    have e : cpl (p.set.name, p.set.type) (s.set.name, s.set.type) < 0 := this
    have e2 : ¬ cpl (p.set.name, p.set.type) (s.set.name, s.set.type) >= 0 := by omega
    simp [e2]
 have hf : ¬ ((z.sets.length : Int) > 20000) := by have := h.few; omega
 rw [hall, h.apex, h.tame]
 simp [hf]
structure Val (z : ao) : Prop where
 ord : Ordered z
 start : bl z.sets ⟨z.apex, 4⟩ = true
 serv : bl z.sets ⟨z.apex, 2⟩ = true
 fit : ∀ s ∈ z.sets, fits s.set.type (s.set.name == z.apex) = true
 ali : ∀ s ∈ z.sets, ∀ x ∈ z.sets, s.set.type = 3 -> x.set.name = s.set.name -> x.set.type = 3 \/ x.set.type = 8
 cut : ∀ s ∈ z.sets, iG s (spec (bc z) s.set.name) = false
 sig : ∀ s ∈ z.sets, kj s (spec (bc z) s.set.name) = false
 form : ∀ s ∈ z.sets, dV s.sigs z.apex = true
theorem AK (z : ao) : (List.range z.sets.length).all (gC z) = true ↔ ∀ s ∈ z.sets, fits s.set.type (s.set.name == z.apex) = true :=
 jA fun i s h => by unfold gC; rw [h]
theorem yw (z : ao) : ln z = true ↔ ∀ s ∈ z.sets, dV s.sigs z.apex = true :=
 jA fun i s h => by unfold jD; rw [h]
theorem wq {z : ao} (ho : Ordered z) : lu z (bV z) = true ↔ ∀ s ∈ z.sets, iG s (spec (bc z) s.set.name) = false := by
 unfold lu
 rw [jA (q := fun s => !iG s (spec (bc z) s.set.name)) fun i s h => by unfold cutAt; rw [uE h ho, h]]
 simp only [Bool.not_eq_true']
theorem vC {z : ao} (ho : Ordered z) : l7 z (bV z) = true ↔ ∀ s ∈ z.sets, kj s (spec (bc z) s.set.name) = false := by
 unfold l7
 rw [jA (q := fun s => !kj s (spec (bc z) s.set.name)) fun i s h => by unfold l8; rw [uE h ho, h]]
 simp only [Bool.not_eq_true']
theorem nZ {z : ao} : aR z = true ↔ Val z := by
 constructor
 . intro h
   have ho := aP h
   unfold aR fE at h
   simp only [Bool.and_eq_true] at h
   obtain ⟨⟨_, ⟨⟨a1, a2⟩, a3⟩⟩, ⟨⟨b1, b2⟩, b3⟩, b4⟩ := h
   exact ⟨ho, a1, a2, (AK z).1 a3, (wC ho).1 b1, (wq ho).1 b2, (vC ho).1 b3, (yw z).1 b4⟩
 . intro h
   unfold aR fE
   dsimp only
   rw [h.ord.bool, h.start, h.serv, (AK z).2 h.fit, (wC h.ord).2 h.ali, (wq h.ord).2 h.cut, (vC h.ord).2 h.sig, (yw z).2 h.form]
   rfl
theorem Bb {z : ao} (ho : Ordered z) (n : Bs) : (spec (bc z) n = [] /\ ∀ c ∈ bI z.apex z.sets, an n c = false) \/
 (spec (bc z) n ∈ bI z.apex z.sets /\ an n (spec (bc z) n) = true /\ ∀ c ∈ bI z.apex z.sets, an n c = true -> an c (spec (bc z) n) = true) := by
 obtain ⟨hA, ha, hg⟩ := iX ho
 by_cases he : ∃ h ∈ bc z, an n h = true
 . obtain ⟨h, hm, hu⟩ := he
   have e := jP hA ha hm hu
   rw [e]
   refine .inr ⟨mP hm, hu, fun c hc hn => ?_⟩
   obtain ⟨g, hgm, hgu⟩ := hg c hc
   have e2 := jP hA ha hgm (nH hn hgu)
   rw [<- e, e2]; exact hgu
 . have hno : ∀ h ∈ bc z, an n h = false := fun h hm => by
    cases hu : an n h with
    | false => rfl
    | true => exact (he ⟨h, hm, hu⟩).elim
   refine .inl ⟨ng hno, fun c hc => ?_⟩
   cases hu : an n c with
   | false => rfl
   | true =>
    obtain ⟨g, hgm, hgu⟩ := hg c hc
    exact (he ⟨g, hgm, nH hu hgu⟩).elim
theorem DN {z : ao} (ho : Ordered z) {c : Bs} (h : c ∈ bI z.apex z.sets) : c ≠ [] /\ c ≠ z.apex /\ af c = true /\ an c z.apex = true /\ bl z.sets ⟨c, 2⟩ = true := by
 obtain ⟨s, hs, h1, h2⟩ := (jY _ _ _).1 h
 subst h2
 unfold cL at h1
 simp only [Bool.and_eq_true, beq_iff_eq, Bool.not_eq_true', beq_eq_false_iff_ne] at h1
 exact ⟨fO (ho.name s hs), h1.2, ho.name s hs, CR ho hs, gY.2 ⟨s, hs, by show (s.set.name, s.set.type) = _; rw [h1.1]; rfl⟩⟩
end NP

set_option maxRecDepth 100000
namespace NP
open NQ Go
theorem EU {s : Signed} (h : df s.set = true) : aL (qOf s) = true := by
 have h1 := gj h
 have h2 := vE h
 unfold aL qOf
 simp only [h1, Bool.true_and, Bool.and_eq_true, decide_eq_true_eq]
 exact ⟨h2.1, h2.2⟩
theorem FE {z : ao} (hv : aR z = true) {s : Signed} (hs : s ∈ z.sets) : rm z (qOf s) = (s, true, 0) := by
 have ho := aP hv
 have hh : bl z.sets (qOf s) = true := gY.2 ⟨s, hs, rfl⟩
 obtain ⟨x, hx, hm, hp⟩ := yv ho (q := qOf s) (ho.name s hs) hh
 have e := ho.rising.pw.uniq hm hs hp
 subst e
 unfold rm
 rw [if_neg (by simp [EU (ho.set _ hs), hv]), if_neg (by simp [hh]), hx]
 rfl
theorem FD {z : ao} (hv : aR z = true) {q : av} (hq : aL q = true) (h : bl z.sets q = false) : rm z q = (pv, false, 0) := by
 unfold rm
 rw [if_neg (by simp [hq, hv]), if_pos (by simp [h])]
theorem H4 {z : ao} (hv : aR z = true) {q : av} (hq : aL q = true) (h : bl z.sets q = true) : ∃ s ∈ z.sets, s.place = q.place /\ rm z q = (s, true, 0) := by
 obtain ⟨s, hs, e⟩ := gY.1 h
 refine ⟨s, hs, e, ?_⟩
 have : q = qOf s := by
  have e1 : s.set.name = q.name := congrArg Prod.fst e
  have e2 : s.set.type = q.type := congrArg Prod.snd e
  cases q; simp [qOf] at e1 e2 ⊢; exact ⟨e1.symm, e2.symm⟩
 rw [this]; exact FE hv hs
theorem Et {z : ao} (hv : aR z = true) {c n : Bs} (hc : c ∈ bI z.apex z.sets) (hu : an n c = true) : spec (bc z) n = c := by
 obtain ⟨hA, ha, _⟩ := iX (aP hv)
 exact jP hA ha (yL hv hc) hu
end NP

set_option maxRecDepth 100000
namespace NP
open NQ Go
theorem kB {l : List Signed} {q : av} (h : bl l q = true) : ∃ (k : Nat) (s : Signed), atI l q = k /\ l[k]? = some s /\ s.place = q.place := by
 unfold atI
 cases hf : l.findIdx? (is q) with
 | none =>
  rw [List.findIdx?_eq_none_iff] at hf
  unfold bl at h
  rw [List.any_eq_true] at h
  obtain ⟨s, hs, e⟩ := h
  rw [hf s hs] at e; cases e
 | some k =>
  obtain ⟨h1, h2, _⟩ := List.findIdx?_eq_some_iff_getElem.1 hf
  exact ⟨k, l[k], rfl, List.getElem?_eq_getElem h1, (jo q _).1 h2⟩
theorem I8 {l : List Signed} (hl : RP l) {q : av} {k : Nat} {s : Signed} (hk : l[k]? = some s) (hp : s.place = q.place) : posOf l q = k := by
 unfold posOf
 have h1 : l = l.take k ++ s :: l.drop (k + 1) := by
  obtain ⟨hlt, e⟩ := List.getElem?_eq_some_iff.1 hk
  conv => lhs; rw [<- List.take_append_drop k l, List.drop_eq_getElem_cons hlt, e]
 have hlt : k < l.length := (List.getElem?_eq_some_iff.1 hk).1
 have h2 : ∀ x ∈ l.take k, decide (cpl x.place q.place < 0) = true := fun x hx => by
  have hl' := hl
  rw [h1] at hl'
  have := (List.pairwise_append.1 hl').2.2 x hx s (List.mem_cons_self ..)
  rw [<- hp]; simpa using this
 conv => lhs; rw [h1]
 rw [List.takeWhile_append_of_pos h2, List.takeWhile_cons, if_neg (by rw [hp, yM]; simp)]
 simp; omega
def aN (z : ao) (n : Bs) : Bs := ((bI z.apex z.sets).find? fun c => an n c).getD []
theorem FY {z : ao} (hv : aR z = true) (n : Bs) : aN z n = spec (bc z) n := by
 unfold aN
 cases hf : (bI z.apex z.sets).find? fun c => an n c with
 | none =>
  rw [List.find?_eq_none] at hf
  rcases Bb (aP hv) n with ⟨e, _⟩ | ⟨e1, e2, _⟩
  . rw [e]; rfl
  . exact absurd e2 (hf _ e1)
 | some c =>
  have h1 := List.find?_some hf
  have h2 := List.mem_of_find?_eq_some hf
  rw [Et hv h2 h1]; rfl
theorem AN {z : ao} {n : Bs} (hv : aR z = true) (hn : af n = true) (hu : an n z.apex = true) : cY z n = (aN z n, !(aN z n == []), 0) := by
 have ha := (aP hv).apex
 have hu' : (aM n z.apex).1 = true := by unfold aM; rw [if_pos ⟨hn, ha⟩]; exact hu
 rw [FY hv]
 unfold cY
 rw [if_neg (by simp [hv, hn]), if_neg (by simp [hu'])]
 rcases DO hv hn hu with ⟨e1, e2⟩ | ⟨c, e1, e2, _, e3⟩
 . rw [e1, e2]; rfl
 . rw [e1, e2]
   have : (c == []) = false := by simpa using e3
   rw [this]; rfl
theorem Asc.ext : ∀ {a b : List Bs}, Asc a -> Asc b -> (∀ x, x ∈ a ↔ x ∈ b) -> a = b
 | [], [], _, _, _ => rfl
 | [], y :: b, _, _, h => by have := (h y).2 (List.mem_cons_self ..); cases this
 | x :: a, [], _, _, h => by have := (h x).1 (List.mem_cons_self ..); cases this
 | x :: a, y :: b, ha, hb, h => by
  obtain ⟨a1, a2⟩ := List.pairwise_cons.1 ha
  obtain ⟨b1, b2⟩ := List.pairwise_cons.1 hb
  have irr : ∀ c : Bs, ¬ ax c c < 0 := fun c hc => by have := (aV.zero c c).2 rfl; omega
  have hxy : x = y := by
   rcases List.mem_cons.1 ((h x).1 (List.mem_cons_self ..)) with e | hx
   . exact e
   . rcases List.mem_cons.1 ((h y).2 (List.mem_cons_self ..)) with e | hy
     . exact e.symm
     . have h1 := b1 x hx
       have h2 := a1 y hy
       exact absurd (show ax y x <= 0 by omega) (ve h2)
  subst hxy
  congr 1
  refine Asc.ext a2 b2 fun z => ⟨fun hz => ?_, fun hz => ?_⟩
  . rcases List.mem_cons.1 ((h z).1 (List.mem_cons_of_mem _ hz)) with e | hz'
    . subst e; exact (irr _ (a1 _ hz)).elim
    . exact hz'
  . rcases List.mem_cons.1 ((h z).2 (List.mem_cons_of_mem _ hz)) with e | hz'
    . subst e; exact (irr _ (b1 _ hz)).elim
    . exact hz'
def ref (o : Bool) (s : Signed) : Bool := o || (s.set.type == 2)
def mark (s : Signed) (o : Bool) : Bs := if ref o s = true then [] else s.set.name ++ [0]
end NP

set_option maxRecDepth 100000
namespace Go.Proofs.YtnbnldnfkikakaaGreatDoor
open NQ Go NP Go.RowKit
theorem pP (q : av) : NQ.Fn cx 44 [.agg (bq q)] (.d (.bool (aL q))) [] := by
 refine aq ay mixed Tryz.func44 (by kernel_rfl) rfl (Nat.le_of_ble_eq_true rfl) ?_; conv => whnf
 (refine ⟨_, _, j2 q.name, ?_⟩; conv => whnf)
 (refine ab (fun h => ?_) (fun h => ?_) <;> (rw [h]; conv => whnf))
 . have h1 := h
   (refine ab (fun h => ?_) (fun h => ?_) <;> (rw [h]; conv => whnf))
   . refine ae rfl ?_; show AV.d (D.bool _) = _; simp only [aL, *, if_true, if_false, Bool.false_eq_true, Bool.not_true, Bool.not_false, Bool.not_not, Bool.true_or, Bool.or_true, Bool.false_or, Bool.or_false, Bool.and_true, Bool.true_and, Bool.false_and, Bool.and_false]
   . refine ae rfl ?_; show AV.d (D.bool _) = _; simp only [aL, *, if_true, if_false, Bool.false_eq_true, Bool.not_true, Bool.not_false, Bool.not_not, Bool.true_or, Bool.or_true, Bool.false_or, Bool.or_false, Bool.and_true, Bool.true_and, Bool.false_and, Bool.and_false]
 . refine ae rfl ?_; show AV.d (D.bool _) = _; simp only [aL, *, if_true, if_false, Bool.false_eq_true, Bool.not_true, Bool.not_false, Bool.not_not, Bool.true_or, Bool.or_true, Bool.false_or, Bool.or_false, Bool.and_true, Bool.true_and, Bool.false_and, Bool.and_false]
theorem vJ (z : ao) (hn : z.sets.length <= 100000) : NQ.Fn cx 58 [.agg (aA z)] (.d (.bool (aR z))) [] := by
 have := CA z hn
 rwa [Es] at this
theorem FX (z : ao) (n : Bs) (hn : z.sets.length <= 100000) (hv : ∀ s ∈ z.sets, af s.set.name = true) (hs : af n = true) : NQ.Fn cx 119 [.agg (aA z), .str n] (.d (.str (aN z n))) [] := by
 refine aq ay mixed Tryz.func119 (by kernel_rfl) rfl (Nat.le_of_ble_eq_true rfl) ?_; conv => whnf
 (refine ⟨_, _, AM z hn, ?_⟩; conv => whnf)
 obtain ⟨l, hl0⟩ : ∃ l, l = bI z.apex z.sets := ⟨_, rfl⟩
 have hln : l.length <= 100000 := by rw [hl0]; exact Nat.le_trans (kA _ _) hn
 have hvl : ∀ c ∈ l, af c = true := fun c hc => by
  rw [hl0] at hc
  obtain ⟨s, hs, e⟩ := iF _ _ _ hc
  rw [<- e]; exact hv s hs
 unfold aN
 rw [<- hl0]
 refine ⟨Nat, fun k => ⟨[(1, .d (.str n)), (5, .d (.slice 1 (l.map aB))), (6, .d (.int .i64 k))], []⟩, fun k => k <= l.length /\ (l.drop k).find? (fun c => an n c) = l.find? (fun c => an n c), fun k => l.length - k,
  ⟨0, ⟨by omega, rfl⟩, ah.keep ⟨⟨rfl, rfl⟩, ⟨rfl, rfl⟩, ⟨rfl, rfl⟩, trivial⟩ trivial⟩, fun k ⟨hk, hf⟩ => ?_⟩
 conv => whnf
 refine ab (fun h1 => ?_) (fun h1 => ?_) <;> (rw [h1]; conv => whnf)
 . have hlt : k < l.length := by simp at h1; omega
   obtain ⟨c, hc⟩ : ∃ s, l[k]? = some s := ⟨_, List.getElem?_eq_getElem hlt⟩
   rw [drop_cons hc, List.find?_cons] at hf
   refine ⟨Int.natCast_nonneg k, aB c, au hc, ?_⟩
   conv => whnf
   (refine ⟨_, _, ju n c (aS hs) (aS (hvl c (List.mem_of_getElem? hc))), ?_⟩; conv => whnf)
   (refine ab (fun h => ?_) (fun h => ?_) <;> (rw [h]; conv => whnf))
   . refine ⟨Int.natCast_nonneg k, aB c, au hc, ?_⟩
     conv => whnf
     refine ae rfl ?_
     rw [h] at hf; rw [<- hf]; rfl
   . rw [h] at hf
     exact ⟨k + 1, ⟨hlt, hf⟩, by (show l.length - (k + 1) < l.length - k; omega), ah.keep ⟨⟨rfl, rfl⟩, ⟨rfl, rfl⟩, ⟨aj (by omega), rfl⟩, trivial⟩ trivial⟩
 . obtain rfl : k = l.length := by simp at h1; omega
   refine ae rfl ?_
   rw [List.drop_length] at hf
   rw [<- hf]; rfl
end Go.Proofs.YtnbnldnfkikakaaGreatDoor

set_option maxRecDepth 100000
namespace NP
open NQ Go
structure View where
 apex : Bs
 sets : List Signed
 q : av
 cut : Bs
 behind : Bool
 bz : Bs
def gM : Nat -> List Signed -> List (List D × D)
 | _, [] => []
 | i, s :: t => (bq (qOf s), .int .i64 i) :: gM (i + 1) t
def bY (v : View) : List D := [.str v.apex, .slice 5 (v.sets.map ag), .kmap (gM 0 v.sets), .str v.q.name, .int .i64 v.q.type, .str v.cut, .bool v.behind, .str v.bz]
theorem Hu (q : av) (s : Signed) : bX [.str, .int .i64] ((bq q).map .d) ((bq (qOf s)).map .d) = some (is q s) := by
 show some ((q.name == s.set.name) && ((q.type == s.set.type) && true)) = _
 rw [Bool.and_true]
 unfold is
 congr 1
 rw [Bool.beq_comm (a := q.name), Bool.beq_comm (a := q.type)]
theorem uU (q : av) : ∀ (l : List Signed) (i : Nat), kr [.str, .int .i64] (bq q) (gM i l) = some ((l.findIdx? (is q)).map fun k => D.int .i64 ((i + k : Nat) : Int))
 | [], i => rfl
 | s :: t, i => by
  rw [gM, kr, Hu]
  cases h : is q s with
  | true => simp [List.findIdx?_cons, h]
  | false =>
   simp only
   rw [uU q t (i + 1), List.findIdx?_cons, h]
   simp only [Bool.false_eq_true, if_false]
   cases t.findIdx? (is q) <;> simp
   omega
def lV (l : List Signed) (n : Bs) : Nat := (l.takeWhile fun s => decide (ax s.set.name n < 0)).length
theorem Hb (l : List Signed) (n : Bs) : lV l n <= l.length := (List.takeWhile_sublist _).length_le
theorem oM {n : Bs} : ∀ {l : List Signed}, l.Pairwise (fun a b => ax a.set.name b.set.name <= 0) -> ∀ {i : Nat} {s : Signed}, l[i]? = some s -> (lV l n <= i ↔ 0 <= ax s.set.name n)
 | [], _, i, s, h => by cases h
 | x :: l, hp, i, s, h => by
  obtain ⟨h1, h2⟩ := List.pairwise_cons.1 hp
  unfold lV
  rw [List.takeWhile_cons]
  by_cases hx : ax x.set.name n < 0
  . rw [if_pos (by simpa using hx), List.length_cons]
    cases i with
    | zero => cases h; exact ⟨fun h => by omega, fun h => by omega⟩
    | succ i =>
     have := oM (n := n) h2 (i := i) (s := s) (by simpa using h)
     unfold lV at this
     omega
  . rw [if_neg (by simpa using hx), List.length_nil]
    refine ⟨fun _ => ?_, fun _ => Nat.zero_le _⟩
    cases i with
    | zero => cases h; omega
    | succ i =>
     have hm : s ∈ l := List.mem_of_getElem? (i := i) (by simpa using h)
     have h3 := h1 s hm
     by_cases h4 : ax s.set.name n < 0
     . exact absurd (aV.Jg h3 h4) hx
     . omega
def exB (l : List Signed) (n : Bs) : Bool := match l[lV l n]? with | some s => (aM s.set.name n).1 | none => false
end NP
namespace Go.Proofs.YtnbnldnfkikakaaGreatDoor
open NQ Go NP Go.RowKit
theorem rS (a b : Bs) : NQ.Fn cx 168 [.str a, .str b] (.d (.int .i64 (bT a b).1)) [] := by
 refine aq ay mixed Tryz.func168 (by kernel_rfl) rfl (Nat.le_of_ble_eq_true rfl) ?_; conv => whnf
 (refine ⟨_, _, uD a b, ?_⟩; conv => whnf)
 exact ae rfl rfl
theorem vZ (a b : Bs) : NQ.Fn cx 113 [.str a, .str b] (.d (.bool (aM a b).1)) [] := by
 refine aq ay mixed Tryz.func113 (by kernel_rfl) rfl (Nat.le_of_ble_eq_true rfl) ?_; conv => whnf
 (refine ⟨_, _, mW a b, ?_⟩; conv => whnf)
 exact ae rfl rfl
theorem Bh (n c : Nat) (x y : D) (hn : n <= 100000) (hc : c <= n) (hf : ∀ i : Nat, i < n -> NQ.Fn cx 167 [.int .i64 i, x, y] (.d (.bool (decide (c <= i)))) []) :
 NQ.Fn cx 166 [.int .i64 n, .fn 167 [] [x, y]] (.d (.int .i64 c)) [] := by
 refine aq ay mixed Tryz.func166 (by kernel_rfl) rfl (Nat.le_of_ble_eq_true rfl) ?_; conv => whnf
 refine ⟨Nat × Nat, fun z => ⟨[(1, .d (.fn 167 [] [x, y])), (5, .d (.int .i64 z.1)), (6, .d (.int .i64 z.2))], []⟩, fun z => z.1 <= c /\ c <= z.2 /\ z.2 <= n, fun z => z.2 - z.1,
  ⟨(0, n), ⟨Nat.zero_le _, hc, Nat.le_refl _⟩, ah.keep ⟨⟨rfl, rfl⟩, ⟨rfl, rfl⟩, ⟨rfl, rfl⟩, trivial⟩ trivial⟩, ?_⟩
 rintro ⟨i, j⟩ ⟨h1, h2, h3⟩
 simp only at h1 h2 h3
 conv => whnf
 refine ab (fun hlt => ?_) (fun hlt => ?_) <;> (rw [hlt]; conv => whnf)
 . have hij : i < j := by simp at hlt; omega
   rw [x8 (by omega)]
   (refine ⟨_, _, hf ((i + j) / 2) (by omega), ?_⟩; conv => whnf)
   refine ab (fun h => ?_) (fun h => ?_) <;> (rw [h]; conv => whnf)
   . have hlt : (i + j) / 2 < c := by simp at h; omega
     exact ⟨((i + j) / 2 + 1, j), ⟨hlt, h2, h3⟩, by (show j - ((i + j) / 2 + 1) < j - i; omega), ah.keep ⟨⟨rfl, rfl⟩, ⟨aj (by omega), rfl⟩, ⟨rfl, rfl⟩, trivial⟩ trivial⟩
   . have hle : c <= (i + j) / 2 := by simp at h; omega
     exact ⟨(i, (i + j) / 2), ⟨h1, hle, by (show (i + j) / 2 <= n; omega)⟩, by (show (i + j) / 2 - i < j - i; omega), ah.keep ⟨⟨rfl, rfl⟩, ⟨rfl, rfl⟩, ⟨rfl, rfl⟩, trivial⟩ trivial⟩
 . obtain rfl : i = c := by simp at hlt; omega
   exact ae rfl rfl
theorem Bg (n c : Nat) (x y : D) (hn : n <= 100000) (hc : c <= n) (hf : ∀ i : Nat, i < n -> NQ.Fn cx 194 [.int .i64 i, x, y] (.d (.bool (decide (c <= i)))) []) :
 NQ.Fn cx 166 [.int .i64 n, .fn 194 [] [x, y]] (.d (.int .i64 c)) [] := by
 refine aq ay mixed Tryz.func166 (by kernel_rfl) rfl (Nat.le_of_ble_eq_true rfl) ?_; conv => whnf
 refine ⟨Nat × Nat, fun z => ⟨[(1, .d (.fn 194 [] [x, y])), (5, .d (.int .i64 z.1)), (6, .d (.int .i64 z.2))], []⟩, fun z => z.1 <= c /\ c <= z.2 /\ z.2 <= n, fun z => z.2 - z.1,
  ⟨(0, n), ⟨Nat.zero_le _, hc, Nat.le_refl _⟩, ah.keep ⟨⟨rfl, rfl⟩, ⟨rfl, rfl⟩, ⟨rfl, rfl⟩, trivial⟩ trivial⟩, ?_⟩
 rintro ⟨i, j⟩ ⟨h1, h2, h3⟩
 simp only at h1 h2 h3
 conv => whnf
 refine ab (fun hlt => ?_) (fun hlt => ?_) <;> (rw [hlt]; conv => whnf)
 . have hij : i < j := by simp at hlt; omega
   rw [x8 (by omega)]
   (refine ⟨_, _, hf ((i + j) / 2) (by omega), ?_⟩; conv => whnf)
   refine ab (fun h => ?_) (fun h => ?_) <;> (rw [h]; conv => whnf)
   . have hlt : (i + j) / 2 < c := by simp at h; omega
     exact ⟨((i + j) / 2 + 1, j), ⟨hlt, h2, h3⟩, by (show j - ((i + j) / 2 + 1) < j - i; omega), ah.keep ⟨⟨rfl, rfl⟩, ⟨aj (by omega), rfl⟩, ⟨rfl, rfl⟩, trivial⟩ trivial⟩
   . have hle : c <= (i + j) / 2 := by simp at h; omega
     exact ⟨(i, (i + j) / 2), ⟨h1, hle, by (show (i + j) / 2 <= n; omega)⟩, by (show (i + j) / 2 - i < j - i; omega), ah.keep ⟨⟨rfl, rfl⟩, ⟨rfl, rfl⟩, ⟨rfl, rfl⟩, trivial⟩ trivial⟩
 . obtain rfl : i = c := by simp at hlt; omega
   exact ae rfl rfl
theorem gu (v : View) (n : Bs) (t : Int) : NQ.Fn cx 112 [.ptr (bY v), .str n, .int .i64 t] (.d (.int .i64 (atI v.sets ⟨n, t⟩))) [] := by
 refine aq ay mixed Tryz.func112 (by kernel_rfl) rfl (Nat.le_of_ble_eq_true rfl) ?_; conv => whnf
 have hk := uU ⟨n, t⟩ v.sets 0
 unfold atI
 cases hf : v.sets.findIdx? (is ⟨n, t⟩) with
 | some k =>
  rw [hf] at hk
  refine ⟨some (.int .i64 k), by rw [Option.map_some, Nat.zero_add] at hk; exact hk, ?_⟩
  conv => whnf
  exact ae rfl rfl
 | none =>
  rw [hf] at hk
  refine ⟨none, hk, ?_⟩
  conv => whnf
  exact ae rfl rfl
theorem oA (v : View) : NQ.Fn cx 116 [.ptr (bY v)] (.d (.int .i64 (atI v.sets ⟨v.apex, 4⟩))) [] := by
 refine aq ay mixed Tryz.func116 (by kernel_rfl) rfl (Nat.le_of_ble_eq_true rfl) ?_; conv => whnf
 (refine ⟨_, _, gu v v.apex 4, ?_⟩; conv => whnf)
 exact ae rfl rfl
theorem B6 (v : View) (n : Bs) (i : Nat) (s : Signed) (hs : v.sets[i]? = some s) : NQ.Fn cx 167 [.int .i64 i, .ptr [.ptr (bY v)], .ptr [.str n]] (.d (.bool (decide ((bT s.set.name n).1 >= 0)))) [] := by
 refine aq ay mixed Tryz.func167 (by kernel_rfl) rfl (Nat.le_of_ble_eq_true rfl) ?_; conv => whnf
 (refine ⟨(by kernel_rfl : aJ _ _ = true), ?_⟩; conv => whnf)
 refine ⟨Int.natCast_nonneg i, ag s, au hs, ?_⟩
 conv => whnf
 (refine ⟨_, _, rS s.set.name n, ?_⟩; conv => whnf)
 exact ae rfl rfl
theorem qp (v : View) (n : Bs) (hn : v.sets.length <= 100000) (hr : cy v.sets) (hv : ∀ s ∈ v.sets, af s.set.name = true) (hvn : af n = true) : NQ.Fn cx 115 [.ptr (bY v), .str n] (.d (.bool (exB v.sets n))) [] := by
 refine aq ay mixed Tryz.func115 (by kernel_rfl) rfl (Nat.le_of_ble_eq_true rfl) ?_; conv => whnf
 have hp := jR hr
 have hle := Hb v.sets n
 have hS := Bh v.sets.length (lV v.sets n) (.ptr [.ptr (bY v)]) (.ptr [.str n]) hn hle (fun i hi => by
  obtain ⟨s, hs⟩ : ∃ s, v.sets[i]? = some s := ⟨_, List.getElem?_eq_getElem hi⟩
  have h := B6 v n i s hs
  have e : decide ((bT s.set.name n).1 >= 0) = decide (lV v.sets n <= i) := by
   have hc : (bT s.set.name n).1 = ax s.set.name n := by unfold bT; rw [if_pos ⟨hv s (List.mem_of_getElem? hs), hvn⟩]
   rw [hc, decide_eq_decide]
   exact (oM hp hs).symm
  rwa [e] at h)
 have hl : ((v.sets.map ag).length : Int) = (v.sets.length : Int) := by rw [List.length_map]
 rw [hl]
 refine ⟨_, hS, rfl, ?_⟩
 conv => whnf
 (refine ⟨(by kernel_rfl : aJ _ _ = true), ?_⟩; conv => whnf)
 rw [hl]
 unfold exB
 cases hg : v.sets[lV v.sets n]? with
 | none =>
  have : decide (((lV v.sets n : Nat) : Int) < (v.sets.length : Int)) = false := by
   rw [List.getElem?_eq_none_iff] at hg
   rw [decide_eq_false]; omega
  rw [this]
  conv => whnf
  exact ae rfl rfl
 | some s =>
  have : decide (((lV v.sets n : Nat) : Int) < (v.sets.length : Int)) = true := by
   have := (List.getElem?_eq_some_iff.1 hg).1
   rw [decide_eq_true]; omega
  rw [this]
  conv => whnf
  refine ⟨Int.natCast_nonneg _, ag s, au hg, ?_⟩
  conv => whnf
  (refine ⟨_, _, vZ s.set.name n, ?_⟩; conv => whnf)
  exact ae rfl rfl
theorem Fm (l : List Int) (x : Int) (hl : l.length <= 100000) : NQ.Fn cx 192 [.slice 1 (l.map cq), .int .i64 x] (.d (.int .i64 (match l.findIdx? (· == x) with | some k => (k : Int) | none => -1))) [] := by
 refine aq ay mixed Tryz.func192 (by kernel_rfl) rfl (Nat.le_of_ble_eq_true rfl) ?_; conv => whnf
 refine ⟨Nat, fun k => ⟨[(0, .d (.slice 1 (l.map cq))), (1, .d (.int .i64 x)), (7, .d (.int .i64 ((l.map cq).length : Int))), (8, .d (.int .i64 k))], []⟩, fun k => k <= l.length /\ ∀ j y, j < k -> l[j]? = some y -> (y == x) = false, fun k => l.length - k,
  ⟨0, ⟨by omega, fun j y h => by omega⟩, ah.keep ⟨⟨rfl, rfl⟩, ⟨rfl, rfl⟩, ⟨rfl, rfl⟩, ⟨rfl, rfl⟩, trivial⟩ trivial⟩, fun k ⟨hk, hall⟩ => ?_⟩
 conv => whnf
 refine ab (fun h1 => ?_) (fun h1 => ?_) <;> (rw [h1]; conv => whnf)
 . have hlt : k < l.length := by simp at h1; omega
   obtain ⟨y, hy⟩ : ∃ s, l[k]? = some s := ⟨_, List.getElem?_eq_getElem hlt⟩
   refine ⟨Int.natCast_nonneg k, cq y, au hy, ?_⟩
   conv => whnf
   (refine ab (fun h => ?_) (fun h => ?_) <;> (rw [h]; conv => whnf))
   . refine ae rfl ?_
     have : l.findIdx? (· == x) = some k := by
      rw [List.findIdx?_eq_some_iff_getElem]
      refine ⟨hlt, ?_, fun j hj => ?_⟩
      . obtain ⟨_, e⟩ := List.getElem?_eq_some_iff.1 hy
        rw [e]; simp at h ⊢; exact h.symm
      . have := hall j l[j] hj (List.getElem?_eq_getElem (by omega))
        simpa using this
     rw [this]; rfl
   . refine ⟨k + 1, ⟨hlt, fun j z hj hz => ?_⟩, by (show l.length - (k + 1) < l.length - k; omega), ah.keep ⟨⟨rfl, rfl⟩, ⟨rfl, rfl⟩, ⟨rfl, rfl⟩, ⟨aj (by omega), rfl⟩, trivial⟩ trivial⟩
     rcases Nat.lt_or_eq_of_le (Nat.le_of_lt_succ hj) with h2 | rfl
     . exact hall j z h2 hz
     . rw [hy] at hz; cases hz
       simp at h ⊢; exact fun e => h e.symm
 . obtain rfl : k = l.length := by simp at h1; omega
   refine ae rfl ?_
   have : l.findIdx? (· == x) = none := by
    rw [List.findIdx?_eq_none_iff]
    intro y hy
    obtain ⟨j, hj⟩ := List.getElem?_of_mem hy
    exact hall j y (List.getElem?_eq_some_iff.1 hj).1 hj
   rw [this]; rfl
theorem z7 (l : List Int) (x : Int) (hl : l.length <= 100000) : NQ.Fn cx 165 [.slice 1 (l.map cq), .int .i64 x] (.d (.bool (l.contains x))) [] := by
 refine aq ay mixed Tryz.func165 (by kernel_rfl) rfl (Nat.le_of_ble_eq_true rfl) ?_; conv => whnf
 (refine ⟨_, _, Fm l x hl, ?_⟩; conv => whnf)
 refine ae rfl ?_
 show AV.d (D.bool (decide ((match l.findIdx? (· == x) with | some k => (k : Int) | none => -1) >= 0))) = _
 congr 2
 cases h : l.findIdx? (· == x) with
 | some k =>
  obtain ⟨h1, h2, _⟩ := List.findIdx?_eq_some_iff_getElem.1 h
  have : l.contains x = true := by
   rw [List.contains_iff_mem]
   have e : l[k] = x := by simpa using h2
   exact e ▸ List.getElem_mem h1
  rw [this, decide_eq_true]; exact Int.natCast_nonneg k
 | none =>
  have : l.contains x = false := by
   rw [<- Bool.not_eq_true, List.contains_iff_mem]
   intro hm
   have := List.findIdx?_eq_none_iff.1 h x hm
   simp at this
  rw [this]; rfl
end Go.Proofs.YtnbnldnfkikakaaGreatDoor

set_option maxRecDepth 100000
namespace NP
open NQ Go
structure Ans where
 kind : Int
 sets : List Signed
 cut : Bs
 deriving DecidableEq
def cB (a : Ans) : List D := [.int .i64 a.kind, .slice 5 (a.sets.map ag), .str a.cut]
def bj (l : List Signed) : List Int -> List Int -> List Signed
 | _, [] => []
 | seen, p :: t => if (decide (p < 0) || seen.contains p) = true then bj l (seen ++ [p]) t else (l[p.toNat]?).getD pv :: bj l (seen ++ [p]) t
end NP
namespace Go.Proofs.YtnbnldnfkikakaaGreatDoor
open NQ Go NP Go.RowKit
theorem Bk (l : List Int) (k : Nat) : ((l.map cq).drop ((0 : Nat) : Int).toNat).take (((k : Nat) : Int).toNat - ((0 : Nat) : Int).toNat) = (l.take k).map cq := by
 simp [List.map_take]
theorem fF (v : View) (kind : Int) (ps : List Int) (hn : ps.length <= 1000) (hp : ∀ p ∈ ps, p < v.sets.length) (hs : ∀ s ∈ v.sets, Small s) :
 FnB cx 114 (bY v) [.int .i64 kind, .slice 1 (ps.map cq)] (.agg ((cB ⟨kind, bj v.sets [] ps, []⟩).map .d)) (bY v) := by
 refine eC (fun _ => []) ay mixed Tryz.func114 (by kernel_rfl) rfl (Nat.le_of_ble_eq_true rfl) (Nat.le_of_ble_eq_true rfl) ?_; conv => whnf
 refine ⟨Nat × List Signed, fun x => ⟨[(0, .ptr 100000 0), (2, .d (.slice 1 (ps.map cq))), (6, .ptr 6 0), (7, .ptr 7 0), (13, .d (.slice 1 (ps.map cq))), (14, .d (.int .i64 ((ps.map cq).length : Int))), (15, .d (.int .i64 x.1))],
     [(100000, .box ((bY v).map .d)), (6, .box [.d (.int .i64 0), .nil 5, .d (.str [])]), (7, .box [.d (.int .i64 kind), .own 200, .d (.str [])]), (200, .row 63 5 (x.2.map ag))]⟩,
  fun x => x.1 <= ps.length /\ x.2.length <= x.1 /\ x.2 ++ bj v.sets (ps.take x.1) (ps.drop x.1) = bj v.sets [] ps, fun x => ps.length - x.1,
  ⟨(0, []), ⟨by omega, by simp, by simp⟩, (ah.tJ 7 1 200 5 [.d (.int .i64 kind), .nil 5, .d (.str [])] 63 5 rfl rfl rfl (by decide)).trans (ah.keep ⟨⟨rfl, rfl⟩, ⟨rfl, rfl⟩, ⟨rfl, rfl⟩, ⟨rfl, rfl⟩, ⟨rfl, rfl⟩, ⟨rfl, rfl⟩, ⟨rfl, rfl⟩, trivial⟩ ⟨⟨rfl, rfl⟩, ⟨rfl, rfl⟩, ⟨rfl, rfl⟩, ⟨rfl, rfl⟩, trivial⟩)⟩, ?_⟩
 rintro ⟨k, acc⟩ ⟨hk, hl, hc⟩
 simp only at hk hl hc
 conv => whnf
 refine ab (fun h1 => ?_) (fun h1 => ?_) <;> (rw [h1]; conv => whnf)
 . have hlt : k < ps.length := by simp at h1; omega
   obtain ⟨p, hpk⟩ : ∃ p, ps[k]? = some p := ⟨_, List.getElem?_eq_getElem hlt⟩
   rw [drop_cons hpk, bj, <- bw hpk] at hc
   refine ⟨Int.natCast_nonneg k, cq p, au hpk, ?_⟩
   conv => whnf
   have skip : (decide (p < 0) || (ps.take k).contains p) = true -> ∀ st, ah cx st ⟨[(0, .ptr 100000 0), (2, .d (.slice 1 (ps.map cq))), (6, .ptr 6 0), (7, .ptr 7 0), (13, .d (.slice 1 (ps.map cq))), (14, .d (.int .i64 ((ps.map cq).length : Int))), (15, .d (.int .i64 ((k + 1 : Nat) : Int)))],
    [(100000, .box ((bY v).map .d)), (6, .box [.d (.int .i64 0), .nil 5, .d (.str [])]), (7, .box [.d (.int .i64 kind), .own 200, .d (.str [])]), (200, .row 63 5 (acc.map ag))]⟩ ->
    ∃ y : Nat × List Signed, (y.1 <= ps.length /\ y.2.length <= y.1 /\ y.2 ++ bj v.sets (ps.take y.1) (ps.drop y.1) = bj v.sets [] ps) /\ ps.length - y.1 < ps.length - k /\ ah cx st ⟨[(0, .ptr 100000 0), (2, .d (.slice 1 (ps.map cq))), (6, .ptr 6 0), (7, .ptr 7 0), (13, .d (.slice 1 (ps.map cq))), (14, .d (.int .i64 ((ps.map cq).length : Int))), (15, .d (.int .i64 y.1))],
    [(100000, .box ((bY v).map .d)), (6, .box [.d (.int .i64 0), .nil 5, .d (.str [])]), (7, .box [.d (.int .i64 kind), .own 200, .d (.str [])]), (200, .row 63 5 (y.2.map ag))]⟩ := fun hb st hw => by
    rw [if_pos hb] at hc
    exact ⟨(k + 1, acc), ⟨hlt, by (show acc.length <= k + 1; omega), hc⟩, by (show ps.length - (k + 1) < ps.length - k; omega), hw⟩
   (refine ab (fun h => ?_) (fun h => ?_) <;> (rw [h]; conv => whnf))
   . exact skip (by rw [h]; rfl) _ (ah.keep ⟨⟨rfl, rfl⟩, ⟨rfl, rfl⟩, ⟨rfl, rfl⟩, ⟨rfl, rfl⟩, ⟨rfl, rfl⟩, ⟨rfl, rfl⟩, ⟨aj (by omega), rfl⟩, trivial⟩ ⟨⟨rfl, rfl⟩, ⟨rfl, rfl⟩, ⟨rfl, rfl⟩, ⟨rfl, rfl⟩, trivial⟩)
   have hp0 := h
   refine ⟨by omega, by omega, by (rw [List.length_map]; omega), ?_⟩
   conv => whnf
   rw [Bk]
   (refine ⟨_, _, z7 (ps.take k) p (by (rw [List.length_take]; omega)), ?_⟩; conv => whnf)
   (refine ab (fun h => ?_) (fun h => ?_) <;> (rw [h]; conv => whnf))
   . exact skip (by rw [h, Bool.or_true]) _ (ah.keep ⟨⟨rfl, rfl⟩, ⟨rfl, rfl⟩, ⟨rfl, rfl⟩, ⟨rfl, rfl⟩, ⟨rfl, rfl⟩, ⟨rfl, rfl⟩, ⟨aj (by omega), rfl⟩, trivial⟩ ⟨⟨rfl, rfl⟩, ⟨rfl, rfl⟩, ⟨rfl, rfl⟩, ⟨rfl, rfl⟩, trivial⟩)
   have hge : 0 <= p := by simp at hp0; omega
   have hplt := hp p (List.mem_of_getElem? hpk)
   obtain ⟨s, hsp⟩ : ∃ s, v.sets[p.toNat]? = some s := ⟨_, List.getElem?_eq_getElem (by omega)⟩
   have hsm := hs s (List.mem_of_getElem? hsp)
   rw [if_neg (by rw [hp0, h]; simp), hsp] at hc
   refine ⟨hge, ag s, by (rw [List.getElem?_map, hsp]; rfl), ?_⟩
   conv => whnf
   (refine ⟨_, _, yX _ (by simpa using hsm.1), ?_⟩; conv => whnf)
   (refine ⟨_, _, yW _ (by simpa using hsm.2), ?_⟩; conv => whnf)
   refine ⟨by (show (acc.map ag).length + 1 <= _; rw [List.length_map]; omega), by (show ((acc.map ag).length + 1) * 80 <= _; rw [List.length_map]; omega), ?_⟩
   conv => whnf
   refine ⟨(k + 1, acc ++ [s]), ⟨hlt, by (simp; omega), by (rw [<- hc]; simp)⟩, by (show ps.length - (k + 1) < ps.length - k; omega), ah.keep ⟨⟨rfl, rfl⟩, ⟨rfl, rfl⟩, ⟨rfl, rfl⟩, ⟨rfl, rfl⟩, ⟨rfl, rfl⟩, ⟨rfl, rfl⟩, ⟨aj (by omega), rfl⟩, trivial⟩ ⟨⟨rfl, rfl⟩, ⟨rfl, rfl⟩, ⟨rfl, rfl⟩, ⟨by (show some (Blk.row _ _ (_ ++ _)) = some (Blk.row _ _ _); rw [List.map_append]; rfl), rfl⟩, trivial⟩⟩
 . obtain rfl : k = ps.length := by simp at h1; omega
   rw [List.drop_length, bj, List.append_nil] at hc
   refine ⟨[200], _, _, rfl, ?_, rfl, rfl⟩
   rw [<- hc]
   rfl
end Go.Proofs.YtnbnldnfkikakaaGreatDoor

set_option maxRecDepth 100000
namespace NP
open NQ Go
end NP
namespace Go.Proofs.YtnbnldnfkikakaaGreatDoor
open NQ Go NP Go.RowKit
theorem rJ (z : ao) (hv : aR z = true) : NQ.Fn cx 30 [.agg (aA z)] (.d (.int .i64 (gn z))) [] := by
 have ho := aP hv
 have hfew := ho.few
 refine aq ay mixed Tryz.func30 (by kernel_rfl) rfl (Nat.le_of_ble_eq_true rfl) ?_; conv => whnf
 obtain ⟨k, s, hk, hs, hp⟩ := kB (nZ.1 hv).start
 have fA := xf z ⟨z.apex, 4⟩ (by omega)
 rw [hk] at fA
 obtain ⟨d, hd⟩ := vF (ho.set s (List.mem_of_getElem? hs))
 have e : gn z = d.n := by
  unfold gn
  rw [I8 ho.rising.pw hs hp, hs]
  simp only [hd]
 (refine ⟨(by kernel_rfl : aJ _ _ = true), ?_⟩; conv => whnf)
 (refine ⟨_, _, fA, ?_⟩; conv => whnf)
 refine ⟨Int.natCast_nonneg k, ag s, au hs, ?_⟩
 conv => whnf
 refine ⟨by decide, bB d, by (show (s.set.data.map bB)[(0 : Int).toNat]? = _; simp [hd]), ?_⟩
 conv => whnf
 exact ae rfl (by rw [e]; rfl)
end Go.Proofs.YtnbnldnfkikakaaGreatDoor
