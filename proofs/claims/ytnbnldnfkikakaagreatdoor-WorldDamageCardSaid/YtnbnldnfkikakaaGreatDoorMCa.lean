/-
  Texts of the proof, merged in build order.
-/
import Derived.Test.YtnbnldnfkikakaaGreatDoorMVa
import Derived.Test.YtnbnldnfkikakaaGreatDoorTyM
import Derived.WalkKit
import Derived.Deep.LoopGhost
import Derived.Deep.RegionLaw
import Derived.Lib.Walk
import Derived.Lib.SliceRun
import Derived.Lib.SlicesDelete
import Derived.Shelf.RegionOpenPlain
import Derived.Lib.Hide
import Derived.Test.YtnbnldnfkikakaaGreatDoorQzM
import Derived.Lib.AppendZerosOnto
import Derived.Laws.NewBlocks
import Derived.Shelf.Spec.SlicesInsert
import Derived.Test.YtnbnldnfkikakaaGreatDoorMQt
set_option linter.all false
set_option maxRecDepth 100000
namespace NP
open NQ Go
def qP : Signed := ⟨⟨[], 0, 0, []⟩, []⟩
def Small (s : Signed) : Prop := s.set.data.length <= 100000 /\ s.sigs.length <= 100000
def qZ (z : aq) (q : ax) : Signed × Bool × Int :=
 if (!aP q || !aQ z) = true then (qP, false, 1) else if (!bl z.sets q) = true then (qP, false, 0) else ((z.sets[posOf z.sets q]?).getD qP, true, 0)
theorem qk {l : List Sig} {a : Bs} (h : dQ l a = true) : l.length <= 6 := by
 simp [dQ] at h; omega
theorem uv {s : ga} (h : dh s = true) : s.data.length <= 8 := by
 unfold dh at h; simp only [Bool.and_eq_true, Bool.not_eq_true', Bool.or_eq_false_iff, Bool.not_eq_false'] at h; have := h.1.1.2; simp [within] at this; omega
theorem nZ {z : aq} (h : aQ z = true) : ∀ s ∈ z.sets, Small s := fun s hs => by
 have ho := aS h
 refine ⟨by have := uv (ho.set s hs); omega, ?_⟩
 simp only [aQ, Bool.and_eq_true] at h
 have hf := h.2.2
 simp only [lg, List.all_eq_true] at hf
 obtain ⟨i, hi, rfl⟩ := List.getElem_of_mem hs
 have := hf i (List.mem_range.2 hi)
 simp only [jC, List.getElem?_eq_getElem hi] at this
 have := qk this
 omega
end NP
namespace Go.Proofs.YtnbnldnfkikakaaGreatDoor
open NQ Go NP Go.RowKit
theorem xH (rows : List (List D)) (hl : rows.length <= 100000) : NQ.Fn cx 132 [.slice 3 rows] (.d (.slice 3 rows)) [] := by
 refine ar aB mixed Tryz.func132 (by kernel_rfl) rfl (Nat.le_of_ble_eq_true rfl) ?_; conv => whnf
 refine ⟨fun h => ?_, ?_⟩
 . refine ae rfl ?_
   rw [List.isEmpty_iff.1 h]; rfl
 . conv => whnf
   refine ⟨by (show 0 + rows.length <= _; omega), by (show (0 + rows.length) * 32 <= _; omega), ?_⟩
   conv => whnf
   exact ae rfl rfl
theorem xI (rows : List (List D)) (hl : rows.length <= 100000) : NQ.Fn cx 133 [.slice 6 rows] (.d (.slice 6 rows)) [] := by
 refine ar aB mixed Tryz.func133 (by kernel_rfl) rfl (Nat.le_of_ble_eq_true rfl) ?_; conv => whnf
 refine ⟨fun h => ?_, ?_⟩
 . refine ae rfl ?_
   rw [List.isEmpty_iff.1 h]; rfl
 . conv => whnf
   refine ⟨by (show 0 + rows.length <= _; omega), by (show (0 + rows.length) * 56 <= _; omega), ?_⟩
   conv => whnf
   exact ae rfl rfl
end Go.Proofs.YtnbnldnfkikakaaGreatDoor

set_option maxRecDepth 100000
namespace NP
open NQ Go
def qOf (s : Signed) : ax := ⟨s.set.name, s.set.type⟩
def Jr (l : List Signed) (i : Nat) (s : Signed) : List Signed := l.take i ++ [s] ++ l.drop i
def I0 (l : List Signed) (s : Signed) : List Signed := if bl l (qOf s) = true then l.set (posOf l (qOf s)) s else Jr l (posOf l (qOf s)) s
end NP
namespace Go.Proofs.YtnbnldnfkikakaaGreatDoor
open NQ Go NP Go.RowKit
end Go.Proofs.YtnbnldnfkikakaaGreatDoor

set_option maxRecDepth 100000
namespace NP
open NQ Go
theorem ri {s : Bs} (h : af s = true) : (az s).length <= 8 := by
 have := lQ h
 simp [okL] at this
 exact this.1
theorem fX {s : Bs} (h : af s = true) : s ≠ [] := by rintro rfl; revert h; decide
end NP

set_option maxRecDepth 100000
namespace NP
open NQ Go
theorem vr {z : aq} {i : Nat} {s : Signed} (h : z.sets[i]? = some s) (ho : Ordered z) : (bS z)[i]? = some (spec (aZ z) s.set.name) := by
 rw [<- pI ho, pH ho, List.getElem?_map, h]; rfl
theorem EZ {z : aq} (hv : aQ z = true) {s : Signed} (hs : s ∈ z.sets) : iq s (spec (aZ z) s.set.name) = false := by
 have ho := aS hv
 obtain ⟨i, hi⟩ := List.getElem?_of_mem hs
 simp only [aQ, Bool.and_eq_true] at hv
 have hc := hv.2.1.1.2
 simp only [la, List.all_eq_true] at hc
 have := hc i (List.mem_range.2 (List.getElem?_eq_some_iff.1 hi).1)
 simp only [cutAt, hi, vr hi ho] at this
 simpa using this
theorem jQ (apex c : Bs) : ∀ (l : List Signed), c ∈ bJ apex l ↔ ∃ s ∈ l, cJ apex s = true /\ s.set.name = c
 | [] => by simp [bJ]
 | s :: t => by
  have ih := jQ apex c t
  unfold bJ
  split
  . rename_i h
    rw [List.mem_cons, ih]
    constructor
    . rintro (rfl | ⟨x, hx, k⟩)
      . exact ⟨s, List.mem_cons_self .., h, rfl⟩
      . exact ⟨x, List.mem_cons_of_mem _ hx, k⟩
    . rintro ⟨x, hx, k1, k2⟩
      rcases List.mem_cons.1 hx with rfl | hx
      . exact .inl k2.symm
      . exact .inr ⟨x, hx, k1, k2⟩
  . rename_i h
    rw [ih]
    constructor
    . rintro ⟨x, hx, k⟩; exact ⟨x, List.mem_cons_of_mem _ hx, k⟩
    . rintro ⟨x, hx, k1, k2⟩
      rcases List.mem_cons.1 hx with rfl | hx
      . exact absurd k1 h
      . exact ⟨x, hx, k1, k2⟩
theorem Ef {s : Bs} (h : af s = true) : (s == []) = false := by have := fX h; simpa using this
theorem xT {z : aq} (hv : aQ z = true) {c : Bs} (hc : c ∈ bJ z.apex z.sets) : c ∈ aZ z := by
 have ho := aS hv
 obtain ⟨hA, ha, hcov⟩ := iS ho
 obtain ⟨s, hs, hcut, rfl⟩ := (jQ _ _ _).1 hc
 obtain ⟨g, hg, hu⟩ := hcov _ hc
 have hsp := jZ hA ha hg hu
 have hr := EZ hv hs
 rw [hsp] at hr
 have ht : s.set.type = 2 := by simp [cJ] at hcut; exact hcut.1
 unfold iq at hr
 rw [if_neg (by rw [Ef (ma ho hg)]; exact Bool.false_ne_true)] at hr
 split at hr
 . rename_i e; rw [<- beq_iff_eq.1 e]; exact hg
 . rw [ht] at hr; cases hr
theorem AG {z : aq} {n : Bs} (hne : n ≠ z.apex) : bl z.sets ⟨n, 2⟩ = true ↔ n ∈ bJ z.apex z.sets := by
 rw [jQ]
 simp only [bl, List.any_eq_true, is, Bool.and_eq_true, beq_iff_eq, cJ, Bool.not_eq_true', beq_eq_false_iff_ne]
 constructor
 . rintro ⟨s, hs, h1, h2⟩; exact ⟨s, hs, ⟨h2, by rw [h1]; exact hne⟩, h1⟩
 . rintro ⟨s, hs, ⟨h1, _⟩, h2⟩; exact ⟨s, hs, h2, h1⟩
theorem nY {a b c : Bs} (h : ao a b = true) (k : ao b c = true) : ao a c = true := by
 rw [cL] at *; exact k.trans h
theorem uC {a b : Bs} (h : ao a b = true) (k : ao b a = true) : a = b := by
 rw [cL] at *
 exact oF ((k.eq_of_length (Nat.le_antisymm k.length_le h.length_le)))
theorem zd {n c : Bs} (hn : af n = true) (h : ao n c = true) (hne : n ≠ c) : ao (cd n) c = true := (kZ hn h hne).2.1
theorem yL {n : Bs} (hn : af n = true) : ao n (cd n) = true := by
 unfold ao; rw [rX hn]; exact List.isSuffixOf_iff_suffix.2 (List.tail_suffix _)
theorem oL {z : aq} : ∀ {f : Nat} {n c : Bs}, af n = true -> k9 z f n = some c -> c ∈ bJ z.apex z.sets /\ ao n c = true
 | 0, n, c, _, h => by simp [k9] at h
 | f + 1, n, c, hv, h => by
  unfold k9 at h
  split at h
  . cases h
  . rename_i hne
    split at h
    . rename_i hh; cases h; exact ⟨(AG hne).1 hh, eE n⟩
    . obtain ⟨h1, h2⟩ := oL (eM hv) h
      exact ⟨h1, nY (yL hv) h2⟩
theorem tL {z : aq} (ho : Ordered z) : ∀ {f : Nat} {n : Bs}, af n = true -> ao n z.apex = true -> f = (az n).length + 1 -> k9 z f n = none -> ∀ c ∈ bJ z.apex z.sets, ao n c = false
 | 0, n, _, _, hf, _ => by omega
 | f + 1, n, hv, hu, hf, h => by
  intro c hc
  obtain ⟨s, hs, hcut, hnm⟩ := (jQ _ _ _).1 hc
  have hca : ao c z.apex = true := by
   have := ho.under s hs
   unfold aL at this; rw [if_pos ⟨ho.name s hs, ho.apex⟩] at this; rw [<- hnm]; exact this
  have hne' : c ≠ z.apex := by simp [cJ] at hcut; rw [<- hnm]; exact hcut.2
  unfold k9 at h
  split at h
  . rename_i e
    cases hun : ao n c with
    | false => rfl
    | true => rw [e] at hun; exact absurd (uC hca hun) hne'
  . rename_i hne
    split at h
    . cases h
    . rename_i hh
      obtain ⟨_, k2, k3⟩ := kZ hv hu hne
      have ih := tL ho (eM hv) k2 (by omega) h c hc
      cases hun : ao n c with
      | false => rfl
      | true =>
       by_cases e : n = c
       . subst e; exact absurd ((AG hne).2 hc) hh
       . rw [zd hv hun e] at ih; cases ih
theorem C7 {z : aq} (hv : aQ z = true) {n : Bs} (hn : af n = true) (hu : ao n z.apex = true) :
 (pN z n = none /\ spec (aZ z) n = []) \/ ∃ c, pN z n = some c /\ spec (aZ z) n = c /\ c ∈ aZ z /\ c ≠ [] := by
 have ho := aS hv
 obtain ⟨hA, ha, _⟩ := iS ho
 cases h : pN z n with
 | none => exact .inl ⟨rfl, nE fun c hc => tL ho hn hu rfl h c (mK hc)⟩
 | some c =>
  obtain ⟨h1, h2⟩ := oL hn h
  have h3 := xT hv h1
  exact .inr ⟨c, rfl, jZ hA ha h3 h2, h3, fX (ma ho h3)⟩
theorem DX {z : aq} (ho : Ordered z) {s : Signed} (hs : s ∈ z.sets) : ao s.set.name z.apex = true := by
 have := ho.under s hs
 unfold aL at this; rw [if_pos ⟨ho.name s hs, ho.apex⟩] at this; exact this
end NP

set_option maxRecDepth 100000
namespace NP
open NQ Go
theorem xS (p : Bs × Int) : cpl p p = 0 := (fP.zero _ _).2 rfl
theorem im {a b : Bs × Int} (h : cpl a b < 0) : a ≠ b := fun e => by subst e; rw [xS] at h; omega
theorem EU {a b : Bs × Int} (h : cpl a b < 0) (k : cpl b a < 0) : False := by have := fP.anti a b; omega
abbrev RP (l : List Signed) : Prop := l.Pairwise fun a b => cpl a.place b.place < 0
theorem cu.pw : ∀ {l : List Signed}, cu l -> RP l
 | [], _ => List.Pairwise.nil
 | x :: t, h => List.Pairwise.cons (jW h) h.tail.pw
theorem RP.rising : ∀ {l : List Signed}, RP l -> cu l
 | [], _ => trivial
 | [_], _ => trivial
 | a :: b :: t, h => ⟨(List.pairwise_cons.1 h).1 b (List.mem_cons_self ..), RP.rising (List.pairwise_cons.1 h).2⟩
theorem RP.ext : ∀ {a b : List Signed}, RP a -> RP b -> (∀ x, x ∈ a ↔ x ∈ b) -> a = b
 | [], [], _, _, _ => rfl
 | [], y :: b, _, _, h => by have := (h y).2 (List.mem_cons_self ..); cases this
 | x :: a, [], _, _, h => by have := (h x).1 (List.mem_cons_self ..); cases this
 | x :: a, y :: b, ha, hb, h => by
  obtain ⟨a1, a2⟩ := List.pairwise_cons.1 ha
  obtain ⟨b1, b2⟩ := List.pairwise_cons.1 hb
  have hxy : x = y := by
   rcases List.mem_cons.1 ((h x).1 (List.mem_cons_self ..)) with e | hx
   . exact e
   . rcases List.mem_cons.1 ((h y).2 (List.mem_cons_self ..)) with e | hy
     . exact e.symm
     . exact (EU (b1 x hx) (a1 y hy)).elim
  subst hxy
  congr 1
  refine RP.ext a2 b2 fun z => ⟨fun hz => ?_, fun hz => ?_⟩
  . rcases List.mem_cons.1 ((h z).1 (List.mem_cons_of_mem _ hz)) with rfl | hz'
    . exact (im (a1 _ hz) rfl).elim
    . exact hz'
  . rcases List.mem_cons.1 ((h z).2 (List.mem_cons_of_mem _ hz)) with rfl | hz'
    . exact (im (b1 _ hz) rfl).elim
    . exact hz'
theorem RP.uniq : ∀ {l : List Signed}, RP l -> ∀ {a b : Signed}, a ∈ l -> b ∈ l -> a.place = b.place -> a = b
 | [], _, _, _, ha, _, _ => by cases ha
 | x :: l, h, a, b, ha, hb, e => by
  obtain ⟨h1, h2⟩ := List.pairwise_cons.1 h
  rcases List.mem_cons.1 ha with ha' | ha' <;> rcases List.mem_cons.1 hb with hb' | hb'
  . rw [ha', hb']
  . subst ha'; exact (im (h1 b hb') e).elim
  . subst hb'; exact (im (h1 a ha') e.symm).elim
  . exact RP.uniq h2 ha' hb' e
theorem gR {l : List Signed} {q : ax} : bl l q = true ↔ ∃ s ∈ l, s.place = q.place := by
 simp only [bl, List.any_eq_true, ju]
def rem (q : ax) (l : List Signed) : List Signed := l.filter fun x => !is q x
theorem wq {s : ga} (h : dh s = true) : 1 <= s.type /\ s.type <= 8 := by
 unfold dh at h; simp only [Bool.and_eq_true, Bool.not_eq_true', Bool.or_eq_false_iff, Bool.not_eq_false'] at h
 have := h.1.1.1.1.2
 simp [within] at this; exact this
theorem vx {z : aq} (ho : Ordered z) : aliases z = true ↔ ∀ s ∈ z.sets, ∀ x ∈ z.sets, s.set.type = 3 -> x.set.name = s.set.name -> x.set.type = 3 \/ x.set.type = 8 := by
 unfold aliases
 rw [List.all_eq_true]
 constructor
 . intro h s hs x hx h3 hn
   obtain ⟨i, hi⟩ := List.getElem?_of_mem hs
   obtain ⟨j, hj⟩ := List.getElem?_of_mem hx
   have hil := (List.getElem?_eq_some_iff.1 hi).1
   have hjl := (List.getElem?_eq_some_iff.1 hj).1
   obtain ⟨p, hp⟩ : ∃ p, z.sets[i - 1]? = some p := ⟨_, List.getElem?_eq_getElem (by omega)⟩
   have hok := h i (List.mem_range.2 hil)
   refine Decidable.byContradiction fun hno => ?_
   have hne3 : x.set.type ≠ 3 := fun e => hno (.inl e)
   have hne8 : x.set.type ≠ 8 := fun e => hno (.inr e)
   have hbad : j5 z i = false := by
    refine (kH hi hp).2 ⟨h3, ?_⟩
    rcases Nat.lt_trichotomy j i with hlt | heq | hgt
    . left
      refine ⟨by omega, ?_⟩
      rcases Nat.lt_or_eq_of_le (show j <= i - 1 by omega) with k | k
      . have a1 := (gy (dR ho.rising k hj hp)).1
        have a2 := (gy (dR ho.rising (show i - 1 < i by omega) hp hi)).1
        rw [hn] at a1
        exact (Be a1 a2).symm
      . rw [<- k, hj] at hp; cases hp; exact hn
    . subst heq; rw [hi] at hj; cases hj; exact absurd h3 hne3
    . right
      rcases Nat.lt_or_eq_of_le (show i + 1 <= j by omega) with k | k
      . obtain ⟨y, hy⟩ : ∃ y, z.sets[i + 1]? = some y := ⟨_, List.getElem?_eq_getElem (by omega)⟩
        have a1 := gy (dR ho.rising k hy hj)
        have a2 := (gy (dR ho.rising (show i < i + 1 by omega) hi hy)).1
        have hyn : y.set.name = s.set.name := by
         have := a1.1; rw [hn] at this; exact Be this a2
        refine ⟨y, hy, hyn, ?_⟩
        have := a1.2 (hyn.trans hn.symm)
        have := (wq (ho.set x hx)).2
        omega
      . exact ⟨x, by rw [k]; exact hj, hn, hne8⟩
   rw [hbad] at hok; cases hok
 . intro h i hi
   have hil := List.mem_range.1 hi
   obtain ⟨s, hs⟩ : ∃ s, z.sets[i]? = some s := ⟨_, List.getElem?_eq_getElem hil⟩
   obtain ⟨p, hp⟩ : ∃ p, z.sets[i - 1]? = some p := ⟨_, List.getElem?_eq_getElem (by omega)⟩
   cases hb : j5 z i with
   | true => rfl
   | false =>
    obtain ⟨h3, k⟩ := (kH hs hp).1 hb
    have hsm := List.mem_of_getElem? hs
    rcases k with ⟨k1, k2⟩ | ⟨x, k1, k2, k3⟩
    . have := (gy (dR ho.rising (show i - 1 < i by omega) hp hs)).2 k2
      rcases h s hsm p (List.mem_of_getElem? hp) h3 k2 with e | e <;> omega
    . have := (gy (dR ho.rising (show i < i + 1 by omega) hs k1)).2 k2.symm
      rcases h s hsm x (List.mem_of_getElem? k1) h3 k2 with e | e
      . omega
      . exact absurd e k3
theorem jF {α : Type} {l : List α} {p : Nat -> Bool} {q : α -> Bool} (h : ∀ i s, l[i]? = some s -> p i = q s) : (List.range l.length).all p = true ↔ ∀ s ∈ l, q s = true := by
 rw [List.all_eq_true]
 constructor
 . intro k s hs
   obtain ⟨i, hi⟩ := List.getElem?_of_mem hs
   rw [<- h i s hi]
   exact k i (List.mem_range.2 (List.getElem?_eq_some_iff.1 hi).1)
 . intro k i hi
   have hi := List.mem_range.1 hi
   rw [h i _ (List.getElem?_eq_getElem hi)]
   exact k _ (List.getElem_mem hi)
theorem Ordered.bool {z : aq} (h : Ordered z) : ordered z = true := by
 unfold ordered
 have hall : (List.range z.sets.length).all (nA z) = true := by
  rw [List.all_eq_true]
  intro i hi
  have hi := List.mem_range.1 hi
  obtain ⟨s, hs⟩ : ∃ s, z.sets[i]? = some s := ⟨_, List.getElem?_eq_getElem hi⟩
  obtain ⟨p, hp⟩ : ∃ p, z.sets[i - 1]? = some p := ⟨_, List.getElem?_eq_getElem (by omega)⟩
  have hsm := List.mem_of_getElem? hs
  have hpm := List.mem_of_getElem? hp
  rw [mS hs hp, jw, h.set s hsm, h.under s hsm, oK _ _ (h.name p hpm) (h.name s hsm)]
  by_cases h0 : i = 0
  . subst h0; rfl
  . have := dR h.rising (show i - 1 < i by omega) hp hs
    have e : cpl (p.set.name, p.set.type) (s.set.name, s.set.type) < 0 := this
    have e2 : ¬ cpl (p.set.name, p.set.type) (s.set.name, s.set.type) >= 0 := by omega
    simp [e2]
 have hf : ¬ ((z.sets.length : Int) > 20000) := by have := h.few; omega
 rw [hall, h.apex, h.tame]
 simp [hf]
structure Val (z : aq) : Prop where
 ord : Ordered z
 start : bl z.sets ⟨z.apex, 4⟩ = true
 serv : bl z.sets ⟨z.apex, 2⟩ = true
 fit : ∀ s ∈ z.sets, fits s.set.type (s.set.name == z.apex) = true
 ali : ∀ s ∈ z.sets, ∀ x ∈ z.sets, s.set.type = 3 -> x.set.name = s.set.name -> x.set.type = 3 \/ x.set.type = 8
 cut : ∀ s ∈ z.sets, iq s (spec (aZ z) s.set.name) = false
 sig : ∀ s ∈ z.sets, ku s (spec (aZ z) s.set.name) = false
 form : ∀ s ∈ z.sets, dQ s.sigs z.apex = true
theorem AD (z : aq) : (List.range z.sets.length).all (gn z) = true ↔ ∀ s ∈ z.sets, fits s.set.type (s.set.name == z.apex) = true :=
 jF fun i s h => by unfold gn; rw [h]
theorem yc (z : aq) : lg z = true ↔ ∀ s ∈ z.sets, dQ s.sigs z.apex = true :=
 jF fun i s h => by unfold jC; rw [h]
theorem vC {z : aq} (ho : Ordered z) : la z (bS z) = true ↔ ∀ s ∈ z.sets, iq s (spec (aZ z) s.set.name) = false := by
 unfold la
 rw [jF (q := fun s => !iq s (spec (aZ z) s.set.name)) fun i s h => by unfold cutAt; rw [vr h ho, h]]
 simp only [Bool.not_eq_true']
theorem wx {z : aq} (ho : Ordered z) : mo z (bS z) = true ↔ ∀ s ∈ z.sets, ku s (spec (aZ z) s.set.name) = false := by
 unfold mo
 rw [jF (q := fun s => !ku s (spec (aZ z) s.set.name)) fun i s h => by unfold ml; rw [vr h ho, h]]
 simp only [Bool.not_eq_true']
theorem ow {z : aq} : aQ z = true ↔ Val z := by
 constructor
 . intro h
   have ho := aS h
   unfold aQ fh at h
   simp only [Bool.and_eq_true] at h
   obtain ⟨⟨_, ⟨⟨a1, a2⟩, a3⟩⟩, ⟨⟨b1, b2⟩, b3⟩, b4⟩ := h
   exact ⟨ho, a1, a2, (AD z).1 a3, (vx ho).1 b1, (vC ho).1 b2, (wx ho).1 b3, (yc z).1 b4⟩
 . intro h
   unfold aQ fh
   dsimp only
   rw [h.ord.bool, h.start, h.serv, (AD z).2 h.fit, (vx h.ord).2 h.ali, (vC h.ord).2 h.cut, (wx h.ord).2 h.sig, (yc z).2 h.form]
   rfl
theorem Co {z : aq} (ho : Ordered z) (n : Bs) : (spec (aZ z) n = [] /\ ∀ c ∈ bJ z.apex z.sets, ao n c = false) \/
 (spec (aZ z) n ∈ bJ z.apex z.sets /\ ao n (spec (aZ z) n) = true /\ ∀ c ∈ bJ z.apex z.sets, ao n c = true -> ao c (spec (aZ z) n) = true) := by
 obtain ⟨hA, ha, hg⟩ := iS ho
 by_cases he : ∃ h ∈ aZ z, ao n h = true
 . obtain ⟨h, hm, hu⟩ := he
   have e := jZ hA ha hm hu
   rw [e]
   refine .inr ⟨mK hm, hu, fun c hc hn => ?_⟩
   obtain ⟨g, hgm, hgu⟩ := hg c hc
   have e2 := jZ hA ha hgm (nY hn hgu)
   rw [<- e, e2]; exact hgu
 . have hno : ∀ h ∈ aZ z, ao n h = false := fun h hm => by
    cases hu : ao n h with
    | false => rfl
    | true => exact (he ⟨h, hm, hu⟩).elim
   refine .inl ⟨nE hno, fun c hc => ?_⟩
   cases hu : ao n c with
   | false => rfl
   | true =>
    obtain ⟨g, hgm, hgu⟩ := hg c hc
    exact (he ⟨g, hgm, nY hu hgu⟩).elim
theorem C8 {z : aq} (ho : Ordered z) {c : Bs} (h : c ∈ bJ z.apex z.sets) : c ≠ [] /\ c ≠ z.apex /\ af c = true /\ ao c z.apex = true /\ bl z.sets ⟨c, 2⟩ = true := by
 obtain ⟨s, hs, h1, h2⟩ := (jQ _ _ _).1 h
 subst h2
 unfold cJ at h1
 simp only [Bool.and_eq_true, beq_iff_eq, Bool.not_eq_true', beq_eq_false_iff_ne] at h1
 exact ⟨fX (ho.name s hs), h1.2, ho.name s hs, DX ho hs, gR.2 ⟨s, hs, by show (s.set.name, s.set.type) = _; rw [h1.1]; rfl⟩⟩
end NP

set_option maxRecDepth 100000
namespace NP
open NQ Go
theorem F0 {s : Signed} (h : dh s.set = true) : aP (qOf s) = true := by
 have h1 := gE h
 have h2 := wq h
 unfold aP qOf
 simp only [h1, Bool.true_and, Bool.and_eq_true, decide_eq_true_eq]
 exact ⟨h2.1, h2.2⟩
theorem Fk {z : aq} (hv : aQ z = true) {s : Signed} (hs : s ∈ z.sets) : qZ z (qOf s) = (s, true, 0) := by
 have ho := aS hv
 have hh : bl z.sets (qOf s) = true := gR.2 ⟨s, hs, rfl⟩
 obtain ⟨x, hx, hm, hp⟩ := yd ho (q := qOf s) (ho.name s hs) hh
 have e := ho.rising.pw.uniq hm hs hp
 subst e
 unfold qZ
 rw [if_neg (by simp [F0 (ho.set _ hs), hv]), if_neg (by simp [hh]), hx]
 rfl
theorem Fl {z : aq} (hv : aQ z = true) {q : ax} (hq : aP q = true) (h : bl z.sets q = false) : qZ z q = (qP, false, 0) := by
 unfold qZ
 rw [if_neg (by simp [hq, hv]), if_pos (by simp [h])]
theorem Hj {z : aq} (hv : aQ z = true) {q : ax} (hq : aP q = true) (h : bl z.sets q = true) : ∃ s ∈ z.sets, s.place = q.place /\ qZ z q = (s, true, 0) := by
 obtain ⟨s, hs, e⟩ := gR.1 h
 refine ⟨s, hs, e, ?_⟩
 have : q = qOf s := by
  have e1 : s.set.name = q.name := congrArg Prod.fst e
  have e2 : s.set.type = q.type := congrArg Prod.snd e
  cases q; simp [qOf] at e1 e2 ⊢; exact ⟨e1.symm, e2.symm⟩
 rw [this]; exact Fk hv hs
theorem Gq {z : aq} (hv : aQ z = true) {c n : Bs} (hc : c ∈ bJ z.apex z.sets) (hu : ao n c = true) : spec (aZ z) n = c := by
 obtain ⟨hA, ha, _⟩ := iS (aS hv)
 exact jZ hA ha (xT hv hc) hu
end NP

set_option maxRecDepth 100000
namespace NP
open NQ Go
theorem j8 {l : List Signed} {q : ax} (h : bl l q = true) : ∃ (k : Nat) (s : Signed), atI l q = k /\ l[k]? = some s /\ s.place = q.place := by
 unfold atI
 cases hf : l.findIdx? (is q) with
 | none =>
  rw [List.findIdx?_eq_none_iff] at hf
  unfold bl at h
  rw [List.any_eq_true] at h
  obtain ⟨s, hs, e⟩ := h
  rw [hf s hs] at e; cases e
 | some k =>
  obtain ⟨h1, h2, _⟩ := List.findIdx?_eq_some_iff_getElem.1 hf
  exact ⟨k, l[k], rfl, List.getElem?_eq_getElem h1, (ju q _).1 h2⟩
theorem IC {l : List Signed} (hl : RP l) {q : ax} {k : Nat} {s : Signed} (hk : l[k]? = some s) (hp : s.place = q.place) : posOf l q = k := by
 unfold posOf
 have h1 : l = l.take k ++ s :: l.drop (k + 1) := by
  obtain ⟨hlt, e⟩ := List.getElem?_eq_some_iff.1 hk
  conv => lhs; rw [<- List.take_append_drop k l, List.drop_eq_getElem_cons hlt, e]
 have hlt : k < l.length := (List.getElem?_eq_some_iff.1 hk).1
 have h2 : ∀ x ∈ l.take k, decide (cpl x.place q.place < 0) = true := fun x hx => by
  have hl' := hl
  rw [h1] at hl'
  have := (List.pairwise_append.1 hl').2.2 x hx s (List.mem_cons_self ..)
  rw [<- hp]; simpa using this
 conv => lhs; rw [h1]
 rw [List.takeWhile_append_of_pos h2, List.takeWhile_cons, if_neg (by rw [hp, xS]; simp)]
 simp; omega
def aK (z : aq) (n : Bs) : Bs := ((bJ z.apex z.sets).find? fun c => ao n c).getD []
theorem EW {z : aq} (hv : aQ z = true) (n : Bs) : aK z n = spec (aZ z) n := by
 unfold aK
 cases hf : (bJ z.apex z.sets).find? fun c => ao n c with
 | none =>
  rw [List.find?_eq_none] at hf
  rcases Co (aS hv) n with ⟨e, _⟩ | ⟨e1, e2, _⟩
  . rw [e]; rfl
  . exact absurd e2 (hf _ e1)
 | some c =>
  have h1 := List.find?_some hf
  have h2 := List.mem_of_find?_eq_some hf
  rw [Gq hv h2 h1]; rfl
theorem Az {z : aq} {n : Bs} (hv : aQ z = true) (hn : af n = true) (hu : ao n z.apex = true) : cT z n = (aK z n, !(aK z n == []), 0) := by
 have ha := (aS hv).apex
 have hu' : (aL n z.apex).1 = true := by unfold aL; rw [if_pos ⟨hn, ha⟩]; exact hu
 rw [EW hv]
 unfold cT
 rw [if_neg (by simp [hv, hn]), if_neg (by simp [hu'])]
 rcases C7 hv hn hu with ⟨e1, e2⟩ | ⟨c, e1, e2, _, e3⟩
 . rw [e1, e2]; rfl
 . rw [e1, e2]
   have : (c == []) = false := by simpa using e3
   rw [this]; rfl
theorem Asc.ext : ∀ {a b : List Bs}, Asc a -> Asc b -> (∀ x, x ∈ a ↔ x ∈ b) -> a = b
 | [], [], _, _, _ => rfl
 | [], y :: b, _, _, h => by have := (h y).2 (List.mem_cons_self ..); cases this
 | x :: a, [], _, _, h => by have := (h x).1 (List.mem_cons_self ..); cases this
 | x :: a, y :: b, ha, hb, h => by
  obtain ⟨a1, a2⟩ := List.pairwise_cons.1 ha
  obtain ⟨b1, b2⟩ := List.pairwise_cons.1 hb
  have irr : ∀ c : Bs, ¬ aw c c < 0 := fun c hc => by have := (aV.zero c c).2 rfl; omega
  have hxy : x = y := by
   rcases List.mem_cons.1 ((h x).1 (List.mem_cons_self ..)) with e | hx
   . exact e
   . rcases List.mem_cons.1 ((h y).2 (List.mem_cons_self ..)) with e | hy
     . exact e.symm
     . have h1 := b1 x hx
       have h2 := a1 y hy
       exact absurd (show aw y x <= 0 by omega) (uQ h2)
  subst hxy
  congr 1
  refine Asc.ext a2 b2 fun z => ⟨fun hz => ?_, fun hz => ?_⟩
  . rcases List.mem_cons.1 ((h z).1 (List.mem_cons_of_mem _ hz)) with e | hz'
    . subst e; exact (irr _ (a1 _ hz)).elim
    . exact hz'
  . rcases List.mem_cons.1 ((h z).2 (List.mem_cons_of_mem _ hz)) with e | hz'
    . subst e; exact (irr _ (b1 _ hz)).elim
    . exact hz'
def ref (o : Bool) (s : Signed) : Bool := o || (s.set.type == 2)
def mark (s : Signed) (o : Bool) : Bs := if ref o s = true then [] else s.set.name ++ [0]
end NP

set_option maxRecDepth 100000
namespace Go.Proofs.YtnbnldnfkikakaaGreatDoor
open NQ Go NP Go.RowKit
theorem wi (q : ax) : NQ.Fn cx 44 [.agg (bA q)] (.d (.bool (aP q))) [] := by
 refine ar aB mixed Tryz.func44 (by kernel_rfl) rfl (Nat.le_of_ble_eq_true rfl) ?_; conv => whnf
 (refine ⟨_, _, lz q.name, ?_⟩; conv => whnf)
 (refine ab (fun h => ?_) (fun h => ?_) <;> (rw [h]; conv => whnf))
 . have h1 := h
   (refine ab (fun h => ?_) (fun h => ?_) <;> (rw [h]; conv => whnf))
   . refine ae rfl ?_; show AV.d (D.bool _) = _; simp only [aP, *, if_true, if_false, Bool.false_eq_true, Bool.not_true, Bool.not_false, Bool.not_not, Bool.true_or, Bool.or_true, Bool.false_or, Bool.or_false, Bool.and_true, Bool.true_and, Bool.false_and, Bool.and_false]
   . refine ae rfl ?_; show AV.d (D.bool _) = _; simp only [aP, *, if_true, if_false, Bool.false_eq_true, Bool.not_true, Bool.not_false, Bool.not_not, Bool.true_or, Bool.or_true, Bool.false_or, Bool.or_false, Bool.and_true, Bool.true_and, Bool.false_and, Bool.and_false]
 . refine ae rfl ?_; show AV.d (D.bool _) = _; simp only [aP, *, if_true, if_false, Bool.false_eq_true, Bool.not_true, Bool.not_false, Bool.not_not, Bool.true_or, Bool.or_true, Bool.false_or, Bool.or_false, Bool.and_true, Bool.true_and, Bool.false_and, Bool.and_false]
theorem wj (z : aq) (hn : z.sets.length <= 100000) : NQ.Fn cx 58 [.agg (aA z)] (.d (.bool (aQ z))) [] := by
 have := Ee z hn
 rwa [Gr] at this
theorem EX (z : aq) (n : Bs) (hn : z.sets.length <= 100000) (hv : ∀ s ∈ z.sets, af s.set.name = true) (hs : af n = true) : NQ.Fn cx 119 [.agg (aA z), .str n] (.d (.str (aK z n))) [] := by
 refine ar aB mixed Tryz.func119 (by kernel_rfl) rfl (Nat.le_of_ble_eq_true rfl) ?_; conv => whnf
 (refine ⟨_, _, AA z hn, ?_⟩; conv => whnf)
 obtain ⟨l, hl0⟩ : ∃ l, l = bJ z.apex z.sets := ⟨_, rfl⟩
 have hln : l.length <= 100000 := by rw [hl0]; exact Nat.le_trans (j9 _ _) hn
 have hvl : ∀ c ∈ l, af c = true := fun c hc => by
  rw [hl0] at hc
  obtain ⟨s, hs, e⟩ := ir _ _ _ hc
  rw [<- e]; exact hv s hs
 unfold aK
 rw [<- hl0]
 refine ⟨Nat, fun k => ⟨[(1, .d (.str n)), (5, .d (.slice 1 (l.map aD))), (6, .d (.int .i64 k))], []⟩, fun k => k <= l.length /\ (l.drop k).find? (fun c => ao n c) = l.find? (fun c => ao n c), fun k => l.length - k,
  ⟨0, ⟨by omega, rfl⟩, ah.keep ⟨⟨rfl, rfl⟩, ⟨rfl, rfl⟩, ⟨rfl, rfl⟩, trivial⟩ trivial⟩, fun k ⟨hk, hf⟩ => ?_⟩
 conv => whnf
 refine ab (fun h1 => ?_) (fun h1 => ?_) <;> (rw [h1]; conv => whnf)
 . have hlt : k < l.length := by simp at h1; omega
   obtain ⟨c, hc⟩ : ∃ s, l[k]? = some s := ⟨_, List.getElem?_eq_getElem hlt⟩
   rw [drop_cons hc, List.find?_cons] at hf
   refine ⟨Int.natCast_nonneg k, aD c, ay hc, ?_⟩
   conv => whnf
   (refine ⟨_, _, j4 n c (bj hs) (bj (hvl c (List.mem_of_getElem? hc))), ?_⟩; conv => whnf)
   (refine ab (fun h => ?_) (fun h => ?_) <;> (rw [h]; conv => whnf))
   . refine ⟨Int.natCast_nonneg k, aD c, ay hc, ?_⟩
     conv => whnf
     refine ae rfl ?_
     rw [h] at hf; rw [<- hf]; rfl
   . rw [h] at hf
     exact ⟨k + 1, ⟨hlt, hf⟩, by (show l.length - (k + 1) < l.length - k; omega), ah.keep ⟨⟨rfl, rfl⟩, ⟨rfl, rfl⟩, ⟨ak (by omega), rfl⟩, trivial⟩ trivial⟩
 . obtain rfl : k = l.length := by simp at h1; omega
   refine ae rfl ?_
   rw [List.drop_length] at hf
   rw [<- hf]; rfl
end Go.Proofs.YtnbnldnfkikakaaGreatDoor

set_option maxRecDepth 100000
namespace NP
open NQ Go
structure View where
 apex : Bs
 sets : List Signed
 q : ax
 cut : Bs
 behind : Bool
 bx : Bs
def gK : Nat -> List Signed -> List (List D × D)
 | _, [] => []
 | i, s :: t => (bA (qOf s), .int .i64 i) :: gK (i + 1) t
def bZ (v : View) : List D := [.str v.apex, .slice 5 (v.sets.map ag), .kmap (gK 0 v.sets), .str v.q.name, .int .i64 v.q.type, .str v.cut, .bool v.behind, .str v.bx]
theorem Ht (q : ax) (s : Signed) : bV [.str, .int .i64] ((bA q).map .d) ((bA (qOf s)).map .d) = some (is q s) := by
 show some ((q.name == s.set.name) && ((q.type == s.set.type) && true)) = _
 rw [Bool.and_true]
 unfold is
 congr 1
 rw [Bool.beq_comm (a := q.name), Bool.beq_comm (a := q.type)]
theorem u6 (q : ax) : ∀ (l : List Signed) (i : Nat), ko [.str, .int .i64] (bA q) (gK i l) = some ((l.findIdx? (is q)).map fun k => D.int .i64 ((i + k : Nat) : Int))
 | [], i => rfl
 | s :: t, i => by
  rw [gK, ko, Ht]
  cases h : is q s with
  | true => simp [List.findIdx?_cons, h]
  | false =>
   simp only
   rw [u6 q t (i + 1), List.findIdx?_cons, h]
   simp only [Bool.false_eq_true, if_false]
   cases t.findIdx? (is q) <;> simp
   omega
def lV (l : List Signed) (n : Bs) : Nat := (l.takeWhile fun s => decide (aw s.set.name n < 0)).length
theorem Ic (l : List Signed) (n : Bs) : lV l n <= l.length := (List.takeWhile_sublist _).length_le
theorem oW {n : Bs} : ∀ {l : List Signed}, l.Pairwise (fun a b => aw a.set.name b.set.name <= 0) -> ∀ {i : Nat} {s : Signed}, l[i]? = some s -> (lV l n <= i ↔ 0 <= aw s.set.name n)
 | [], _, i, s, h => by cases h
 | x :: l, hp, i, s, h => by
  obtain ⟨h1, h2⟩ := List.pairwise_cons.1 hp
  unfold lV
  rw [List.takeWhile_cons]
  by_cases hx : aw x.set.name n < 0
  . rw [if_pos (by simpa using hx), List.length_cons]
    cases i with
    | zero => cases h; exact ⟨fun h => by omega, fun h => by omega⟩
    | succ i =>
     have := oW (n := n) h2 (i := i) (s := s) (by simpa using h)
     unfold lV at this
     omega
  . rw [if_neg (by simpa using hx), List.length_nil]
    refine ⟨fun _ => ?_, fun _ => Nat.zero_le _⟩
    cases i with
    | zero => cases h; omega
    | succ i =>
     have hm : s ∈ l := List.mem_of_getElem? (i := i) (by simpa using h)
     have h3 := h1 s hm
     by_cases h4 : aw s.set.name n < 0
     . exact absurd (aV.Js h3 h4) hx
     . omega
def exB (l : List Signed) (n : Bs) : Bool := match l[lV l n]? with | some s => (aL s.set.name n).1 | none => false
end NP
namespace Go.Proofs.YtnbnldnfkikakaaGreatDoor
open NQ Go NP Go.RowKit
theorem rZ (a b : Bs) : NQ.Fn cx 168 [.str a, .str b] (.d (.int .i64 (bU a b).1)) [] := by
 refine ar aB mixed Tryz.func168 (by kernel_rfl) rfl (Nat.le_of_ble_eq_true rfl) ?_; conv => whnf
 (refine ⟨_, _, tu a b, ?_⟩; conv => whnf)
 exact ae rfl rfl
theorem vR (a b : Bs) : NQ.Fn cx 113 [.str a, .str b] (.d (.bool (aL a b).1)) [] := by
 refine ar aB mixed Tryz.func113 (by kernel_rfl) rfl (Nat.le_of_ble_eq_true rfl) ?_; conv => whnf
 (refine ⟨_, _, mC a b, ?_⟩; conv => whnf)
 exact ae rfl rfl
theorem Ch (n c : Nat) (x y : D) (hn : n <= 100000) (hc : c <= n) (hf : ∀ i : Nat, i < n -> NQ.Fn cx 167 [.int .i64 i, x, y] (.d (.bool (decide (c <= i)))) []) :
 NQ.Fn cx 166 [.int .i64 n, .fn 167 [] [x, y]] (.d (.int .i64 c)) [] := by
 refine ar aB mixed Tryz.func166 (by kernel_rfl) rfl (Nat.le_of_ble_eq_true rfl) ?_; conv => whnf
 refine ⟨Nat × Nat, fun z => ⟨[(1, .d (.fn 167 [] [x, y])), (5, .d (.int .i64 z.1)), (6, .d (.int .i64 z.2))], []⟩, fun z => z.1 <= c /\ c <= z.2 /\ z.2 <= n, fun z => z.2 - z.1,
  ⟨(0, n), ⟨Nat.zero_le _, hc, Nat.le_refl _⟩, ah.keep ⟨⟨rfl, rfl⟩, ⟨rfl, rfl⟩, ⟨rfl, rfl⟩, trivial⟩ trivial⟩, ?_⟩
 rintro ⟨i, j⟩ ⟨h1, h2, h3⟩
 simp only at h1 h2 h3
 conv => whnf
 refine ab (fun hlt => ?_) (fun hlt => ?_) <;> (rw [hlt]; conv => whnf)
 . have hij : i < j := by simp at hlt; omega
   rw [yB (by omega)]
   (refine ⟨_, _, hf ((i + j) / 2) (by omega), ?_⟩; conv => whnf)
   refine ab (fun h => ?_) (fun h => ?_) <;> (rw [h]; conv => whnf)
   . have hlt : (i + j) / 2 < c := by simp at h; omega
     exact ⟨((i + j) / 2 + 1, j), ⟨hlt, h2, h3⟩, by (show j - ((i + j) / 2 + 1) < j - i; omega), ah.keep ⟨⟨rfl, rfl⟩, ⟨ak (by omega), rfl⟩, ⟨rfl, rfl⟩, trivial⟩ trivial⟩
   . have hle : c <= (i + j) / 2 := by simp at h; omega
     exact ⟨(i, (i + j) / 2), ⟨h1, hle, by (show (i + j) / 2 <= n; omega)⟩, by (show (i + j) / 2 - i < j - i; omega), ah.keep ⟨⟨rfl, rfl⟩, ⟨rfl, rfl⟩, ⟨rfl, rfl⟩, trivial⟩ trivial⟩
 . obtain rfl : i = c := by simp at hlt; omega
   exact ae rfl rfl
theorem Ci (n c : Nat) (x y : D) (hn : n <= 100000) (hc : c <= n) (hf : ∀ i : Nat, i < n -> NQ.Fn cx 194 [.int .i64 i, x, y] (.d (.bool (decide (c <= i)))) []) :
 NQ.Fn cx 166 [.int .i64 n, .fn 194 [] [x, y]] (.d (.int .i64 c)) [] := by
 refine ar aB mixed Tryz.func166 (by kernel_rfl) rfl (Nat.le_of_ble_eq_true rfl) ?_; conv => whnf
 refine ⟨Nat × Nat, fun z => ⟨[(1, .d (.fn 194 [] [x, y])), (5, .d (.int .i64 z.1)), (6, .d (.int .i64 z.2))], []⟩, fun z => z.1 <= c /\ c <= z.2 /\ z.2 <= n, fun z => z.2 - z.1,
  ⟨(0, n), ⟨Nat.zero_le _, hc, Nat.le_refl _⟩, ah.keep ⟨⟨rfl, rfl⟩, ⟨rfl, rfl⟩, ⟨rfl, rfl⟩, trivial⟩ trivial⟩, ?_⟩
 rintro ⟨i, j⟩ ⟨h1, h2, h3⟩
 simp only at h1 h2 h3
 conv => whnf
 refine ab (fun hlt => ?_) (fun hlt => ?_) <;> (rw [hlt]; conv => whnf)
 . have hij : i < j := by simp at hlt; omega
   rw [yB (by omega)]
   (refine ⟨_, _, hf ((i + j) / 2) (by omega), ?_⟩; conv => whnf)
   refine ab (fun h => ?_) (fun h => ?_) <;> (rw [h]; conv => whnf)
   . have hlt : (i + j) / 2 < c := by simp at h; omega
     exact ⟨((i + j) / 2 + 1, j), ⟨hlt, h2, h3⟩, by (show j - ((i + j) / 2 + 1) < j - i; omega), ah.keep ⟨⟨rfl, rfl⟩, ⟨ak (by omega), rfl⟩, ⟨rfl, rfl⟩, trivial⟩ trivial⟩
   . have hle : c <= (i + j) / 2 := by simp at h; omega
     exact ⟨(i, (i + j) / 2), ⟨h1, hle, by (show (i + j) / 2 <= n; omega)⟩, by (show (i + j) / 2 - i < j - i; omega), ah.keep ⟨⟨rfl, rfl⟩, ⟨rfl, rfl⟩, ⟨rfl, rfl⟩, trivial⟩ trivial⟩
 . obtain rfl : i = c := by simp at hlt; omega
   exact ae rfl rfl
theorem gx (v : View) (n : Bs) (t : Int) : NQ.Fn cx 112 [.ptr (bZ v), .str n, .int .i64 t] (.d (.int .i64 (atI v.sets ⟨n, t⟩))) [] := by
 refine ar aB mixed Tryz.func112 (by kernel_rfl) rfl (Nat.le_of_ble_eq_true rfl) ?_; conv => whnf
 have hk := u6 ⟨n, t⟩ v.sets 0
 unfold atI
 cases hf : v.sets.findIdx? (is ⟨n, t⟩) with
 | some k =>
  rw [hf] at hk
  refine ⟨some (.int .i64 k), by rw [Option.map_some, Nat.zero_add] at hk; exact hk, ?_⟩
  conv => whnf
  exact ae rfl rfl
 | none =>
  rw [hf] at hk
  refine ⟨none, hk, ?_⟩
  conv => whnf
  exact ae rfl rfl
theorem pd (v : View) : NQ.Fn cx 116 [.ptr (bZ v)] (.d (.int .i64 (atI v.sets ⟨v.apex, 4⟩))) [] := by
 refine ar aB mixed Tryz.func116 (by kernel_rfl) rfl (Nat.le_of_ble_eq_true rfl) ?_; conv => whnf
 (refine ⟨_, _, gx v v.apex 4, ?_⟩; conv => whnf)
 exact ae rfl rfl
theorem Bu (v : View) (n : Bs) (i : Nat) (s : Signed) (hs : v.sets[i]? = some s) : NQ.Fn cx 167 [.int .i64 i, .ptr [.ptr (bZ v)], .ptr [.str n]] (.d (.bool (decide ((bU s.set.name n).1 >= 0)))) [] := by
 refine ar aB mixed Tryz.func167 (by kernel_rfl) rfl (Nat.le_of_ble_eq_true rfl) ?_; conv => whnf
 (refine ⟨(by kernel_rfl : aO _ _ = true), ?_⟩; conv => whnf)
 refine ⟨Int.natCast_nonneg i, ag s, ay hs, ?_⟩
 conv => whnf
 (refine ⟨_, _, rZ s.set.name n, ?_⟩; conv => whnf)
 exact ae rfl rfl
theorem pW (v : View) (n : Bs) (hn : v.sets.length <= 100000) (hr : cu v.sets) (hv : ∀ s ∈ v.sets, af s.set.name = true) (hvn : af n = true) : NQ.Fn cx 115 [.ptr (bZ v), .str n] (.d (.bool (exB v.sets n))) [] := by
 refine ar aB mixed Tryz.func115 (by kernel_rfl) rfl (Nat.le_of_ble_eq_true rfl) ?_; conv => whnf
 have hp := jX hr
 have hle := Ic v.sets n
 have hS := Ch v.sets.length (lV v.sets n) (.ptr [.ptr (bZ v)]) (.ptr [.str n]) hn hle (fun i hi => by
  obtain ⟨s, hs⟩ : ∃ s, v.sets[i]? = some s := ⟨_, List.getElem?_eq_getElem hi⟩
  have h := Bu v n i s hs
  have e : decide ((bU s.set.name n).1 >= 0) = decide (lV v.sets n <= i) := by
   have hc : (bU s.set.name n).1 = aw s.set.name n := by unfold bU; rw [if_pos ⟨hv s (List.mem_of_getElem? hs), hvn⟩]
   rw [hc, decide_eq_decide]
   exact (oW hp hs).symm
  rwa [e] at h)
 have hl : ((v.sets.map ag).length : Int) = (v.sets.length : Int) := by rw [List.length_map]
 rw [hl]
 refine ⟨_, hS, rfl, ?_⟩
 conv => whnf
 (refine ⟨(by kernel_rfl : aO _ _ = true), ?_⟩; conv => whnf)
 rw [hl]
 unfold exB
 cases hg : v.sets[lV v.sets n]? with
 | none =>
  have : decide (((lV v.sets n : Nat) : Int) < (v.sets.length : Int)) = false := by
   rw [List.getElem?_eq_none_iff] at hg
   rw [decide_eq_false]; omega
  rw [this]
  conv => whnf
  exact ae rfl rfl
 | some s =>
  have : decide (((lV v.sets n : Nat) : Int) < (v.sets.length : Int)) = true := by
   have := (List.getElem?_eq_some_iff.1 hg).1
   rw [decide_eq_true]; omega
  rw [this]
  conv => whnf
  refine ⟨Int.natCast_nonneg _, ag s, ay hg, ?_⟩
  conv => whnf
  (refine ⟨_, _, vR s.set.name n, ?_⟩; conv => whnf)
  exact ae rfl rfl
theorem FA (l : List Int) (x : Int) (hl : l.length <= 100000) : NQ.Fn cx 192 [.slice 1 (l.map cn), .int .i64 x] (.d (.int .i64 (match l.findIdx? (· == x) with | some k => (k : Int) | none => -1))) [] := by
 refine ar aB mixed Tryz.func192 (by kernel_rfl) rfl (Nat.le_of_ble_eq_true rfl) ?_; conv => whnf
 refine ⟨Nat, fun k => ⟨[(0, .d (.slice 1 (l.map cn))), (1, .d (.int .i64 x)), (7, .d (.int .i64 ((l.map cn).length : Int))), (8, .d (.int .i64 k))], []⟩, fun k => k <= l.length /\ ∀ j y, j < k -> l[j]? = some y -> (y == x) = false, fun k => l.length - k,
  ⟨0, ⟨by omega, fun j y h => by omega⟩, ah.keep ⟨⟨rfl, rfl⟩, ⟨rfl, rfl⟩, ⟨rfl, rfl⟩, ⟨rfl, rfl⟩, trivial⟩ trivial⟩, fun k ⟨hk, hall⟩ => ?_⟩
 conv => whnf
 refine ab (fun h1 => ?_) (fun h1 => ?_) <;> (rw [h1]; conv => whnf)
 . have hlt : k < l.length := by simp at h1; omega
   obtain ⟨y, hy⟩ : ∃ s, l[k]? = some s := ⟨_, List.getElem?_eq_getElem hlt⟩
   refine ⟨Int.natCast_nonneg k, cn y, ay hy, ?_⟩
   conv => whnf
   (refine ab (fun h => ?_) (fun h => ?_) <;> (rw [h]; conv => whnf))
   . refine ae rfl ?_
     have : l.findIdx? (· == x) = some k := by
      rw [List.findIdx?_eq_some_iff_getElem]
      refine ⟨hlt, ?_, fun j hj => ?_⟩
      . obtain ⟨_, e⟩ := List.getElem?_eq_some_iff.1 hy
        rw [e]; simp at h ⊢; exact h.symm
      . have := hall j l[j] hj (List.getElem?_eq_getElem (by omega))
        simpa using this
     rw [this]; rfl
   . refine ⟨k + 1, ⟨hlt, fun j z hj hz => ?_⟩, by (show l.length - (k + 1) < l.length - k; omega), ah.keep ⟨⟨rfl, rfl⟩, ⟨rfl, rfl⟩, ⟨rfl, rfl⟩, ⟨ak (by omega), rfl⟩, trivial⟩ trivial⟩
     rcases Nat.lt_or_eq_of_le (Nat.le_of_lt_succ hj) with h2 | rfl
     . exact hall j z h2 hz
     . rw [hy] at hz; cases hz
       simp at h ⊢; exact fun e => h e.symm
 . obtain rfl : k = l.length := by simp at h1; omega
   refine ae rfl ?_
   have : l.findIdx? (· == x) = none := by
    rw [List.findIdx?_eq_none_iff]
    intro y hy
    obtain ⟨j, hj⟩ := List.getElem?_of_mem hy
    exact hall j y (List.getElem?_eq_some_iff.1 hj).1 hj
   rw [this]; rfl
theorem zA (l : List Int) (x : Int) (hl : l.length <= 100000) : NQ.Fn cx 165 [.slice 1 (l.map cn), .int .i64 x] (.d (.bool (l.contains x))) [] := by
 refine ar aB mixed Tryz.func165 (by kernel_rfl) rfl (Nat.le_of_ble_eq_true rfl) ?_; conv => whnf
 (refine ⟨_, _, FA l x hl, ?_⟩; conv => whnf)
 refine ae rfl ?_
 show AV.d (D.bool (decide ((match l.findIdx? (· == x) with | some k => (k : Int) | none => -1) >= 0))) = _
 congr 2
 cases h : l.findIdx? (· == x) with
 | some k =>
  obtain ⟨h1, h2, _⟩ := List.findIdx?_eq_some_iff_getElem.1 h
  have : l.contains x = true := by
   rw [List.contains_iff_mem]
   have e : l[k] = x := by simpa using h2
   exact e ▸ List.getElem_mem h1
  rw [this, decide_eq_true]; exact Int.natCast_nonneg k
 | none =>
  have : l.contains x = false := by
   rw [<- Bool.not_eq_true, List.contains_iff_mem]
   intro hm
   have := List.findIdx?_eq_none_iff.1 h x hm
   simp at this
  rw [this]; rfl
end Go.Proofs.YtnbnldnfkikakaaGreatDoor

set_option maxRecDepth 100000
namespace NP
open NQ Go
structure Ans where
 kind : Int
 sets : List Signed
 cut : Bs
 deriving DecidableEq
def cR (a : Ans) : List D := [.int .i64 a.kind, .slice 5 (a.sets.map ag), .str a.cut]
def bd (l : List Signed) : List Int -> List Int -> List Signed
 | _, [] => []
 | seen, p :: t => if (decide (p < 0) || seen.contains p) = true then bd l (seen ++ [p]) t else (l[p.toNat]?).getD qP :: bd l (seen ++ [p]) t
end NP
namespace Go.Proofs.YtnbnldnfkikakaaGreatDoor
open NQ Go NP Go.RowKit
theorem Ce (l : List Int) (k : Nat) : ((l.map cn).drop ((0 : Nat) : Int).toNat).take (((k : Nat) : Int).toNat - ((0 : Nat) : Int).toNat) = (l.take k).map cn := by
 simp [List.map_take]
theorem fg (v : View) (kind : Int) (ps : List Int) (hn : ps.length <= 1000) (hp : ∀ p ∈ ps, p < v.sets.length) (hs : ∀ s ∈ v.sets, Small s) :
 FnB cx 114 (bZ v) [.int .i64 kind, .slice 1 (ps.map cn)] (.agg ((cR ⟨kind, bd v.sets [] ps, []⟩).map .d)) (bZ v) := by
 refine ep (fun _ => []) aB mixed Tryz.func114 (by kernel_rfl) rfl (Nat.le_of_ble_eq_true rfl) (Nat.le_of_ble_eq_true rfl) ?_; conv => whnf
 refine ⟨Nat × List Signed, fun x => ⟨[(0, .ptr 100000 0), (2, .d (.slice 1 (ps.map cn))), (6, .ptr 6 0), (7, .ptr 7 0), (13, .d (.slice 1 (ps.map cn))), (14, .d (.int .i64 ((ps.map cn).length : Int))), (15, .d (.int .i64 x.1))],
     [(100000, .box ((bZ v).map .d)), (6, .box [.d (.int .i64 0), .nil 5, .d (.str [])]), (7, .box [.d (.int .i64 kind), .own 200, .d (.str [])]), (200, .row 63 5 (x.2.map ag))]⟩,
  fun x => x.1 <= ps.length /\ x.2.length <= x.1 /\ x.2 ++ bd v.sets (ps.take x.1) (ps.drop x.1) = bd v.sets [] ps, fun x => ps.length - x.1,
  ⟨(0, []), ⟨by omega, by simp, by simp⟩, (ah.uj 7 1 200 5 [.d (.int .i64 kind), .nil 5, .d (.str [])] 63 5 rfl rfl rfl (by decide)).trans (ah.keep ⟨⟨rfl, rfl⟩, ⟨rfl, rfl⟩, ⟨rfl, rfl⟩, ⟨rfl, rfl⟩, ⟨rfl, rfl⟩, ⟨rfl, rfl⟩, ⟨rfl, rfl⟩, trivial⟩ ⟨⟨rfl, rfl⟩, ⟨rfl, rfl⟩, ⟨rfl, rfl⟩, ⟨rfl, rfl⟩, trivial⟩)⟩, ?_⟩
 rintro ⟨k, acc⟩ ⟨hk, hl, hc⟩
 simp only at hk hl hc
 conv => whnf
 refine ab (fun h1 => ?_) (fun h1 => ?_) <;> (rw [h1]; conv => whnf)
 . have hlt : k < ps.length := by simp at h1; omega
   obtain ⟨p, hpk⟩ : ∃ p, ps[k]? = some p := ⟨_, List.getElem?_eq_getElem hlt⟩
   rw [drop_cons hpk, bd, <- bw hpk] at hc
   refine ⟨Int.natCast_nonneg k, cn p, ay hpk, ?_⟩
   conv => whnf
   have skip : (decide (p < 0) || (ps.take k).contains p) = true -> ∀ st, ah cx st ⟨[(0, .ptr 100000 0), (2, .d (.slice 1 (ps.map cn))), (6, .ptr 6 0), (7, .ptr 7 0), (13, .d (.slice 1 (ps.map cn))), (14, .d (.int .i64 ((ps.map cn).length : Int))), (15, .d (.int .i64 ((k + 1 : Nat) : Int)))],
    [(100000, .box ((bZ v).map .d)), (6, .box [.d (.int .i64 0), .nil 5, .d (.str [])]), (7, .box [.d (.int .i64 kind), .own 200, .d (.str [])]), (200, .row 63 5 (acc.map ag))]⟩ ->
    ∃ y : Nat × List Signed, (y.1 <= ps.length /\ y.2.length <= y.1 /\ y.2 ++ bd v.sets (ps.take y.1) (ps.drop y.1) = bd v.sets [] ps) /\ ps.length - y.1 < ps.length - k /\ ah cx st ⟨[(0, .ptr 100000 0), (2, .d (.slice 1 (ps.map cn))), (6, .ptr 6 0), (7, .ptr 7 0), (13, .d (.slice 1 (ps.map cn))), (14, .d (.int .i64 ((ps.map cn).length : Int))), (15, .d (.int .i64 y.1))],
    [(100000, .box ((bZ v).map .d)), (6, .box [.d (.int .i64 0), .nil 5, .d (.str [])]), (7, .box [.d (.int .i64 kind), .own 200, .d (.str [])]), (200, .row 63 5 (y.2.map ag))]⟩ := fun hb st hw => by
    rw [if_pos hb] at hc
    exact ⟨(k + 1, acc), ⟨hlt, by (show acc.length <= k + 1; omega), hc⟩, by (show ps.length - (k + 1) < ps.length - k; omega), hw⟩
   (refine ab (fun h => ?_) (fun h => ?_) <;> (rw [h]; conv => whnf))
   . exact skip (by rw [h]; rfl) _ (ah.keep ⟨⟨rfl, rfl⟩, ⟨rfl, rfl⟩, ⟨rfl, rfl⟩, ⟨rfl, rfl⟩, ⟨rfl, rfl⟩, ⟨rfl, rfl⟩, ⟨ak (by omega), rfl⟩, trivial⟩ ⟨⟨rfl, rfl⟩, ⟨rfl, rfl⟩, ⟨rfl, rfl⟩, ⟨rfl, rfl⟩, trivial⟩)
   have hp0 := h
   refine ⟨by omega, by omega, by (rw [List.length_map]; omega), ?_⟩
   conv => whnf
   rw [Ce]
   (refine ⟨_, _, zA (ps.take k) p (by (rw [List.length_take]; omega)), ?_⟩; conv => whnf)
   (refine ab (fun h => ?_) (fun h => ?_) <;> (rw [h]; conv => whnf))
   . exact skip (by rw [h, Bool.or_true]) _ (ah.keep ⟨⟨rfl, rfl⟩, ⟨rfl, rfl⟩, ⟨rfl, rfl⟩, ⟨rfl, rfl⟩, ⟨rfl, rfl⟩, ⟨rfl, rfl⟩, ⟨ak (by omega), rfl⟩, trivial⟩ ⟨⟨rfl, rfl⟩, ⟨rfl, rfl⟩, ⟨rfl, rfl⟩, ⟨rfl, rfl⟩, trivial⟩)
   have hge : 0 <= p := by simp at hp0; omega
   have hplt := hp p (List.mem_of_getElem? hpk)
   obtain ⟨s, hsp⟩ : ∃ s, v.sets[p.toNat]? = some s := ⟨_, List.getElem?_eq_getElem (by omega)⟩
   have hsm := hs s (List.mem_of_getElem? hsp)
   rw [if_neg (by rw [hp0, h]; simp), hsp] at hc
   refine ⟨hge, ag s, by (rw [List.getElem?_map, hsp]; rfl), ?_⟩
   conv => whnf
   (refine ⟨_, _, xH _ (by simpa using hsm.1), ?_⟩; conv => whnf)
   (refine ⟨_, _, xI _ (by simpa using hsm.2), ?_⟩; conv => whnf)
   refine ⟨by (show (acc.map ag).length + 1 <= _; rw [List.length_map]; omega), by (show ((acc.map ag).length + 1) * 80 <= _; rw [List.length_map]; omega), ?_⟩
   conv => whnf
   refine ⟨(k + 1, acc ++ [s]), ⟨hlt, by (simp; omega), by (rw [<- hc]; simp)⟩, by (show ps.length - (k + 1) < ps.length - k; omega), ah.keep ⟨⟨rfl, rfl⟩, ⟨rfl, rfl⟩, ⟨rfl, rfl⟩, ⟨rfl, rfl⟩, ⟨rfl, rfl⟩, ⟨rfl, rfl⟩, ⟨ak (by omega), rfl⟩, trivial⟩ ⟨⟨rfl, rfl⟩, ⟨rfl, rfl⟩, ⟨rfl, rfl⟩, ⟨by (show some (Blk.row _ _ (_ ++ _)) = some (Blk.row _ _ _); rw [List.map_append]; rfl), rfl⟩, trivial⟩⟩
 . obtain rfl : k = ps.length := by simp at h1; omega
   rw [List.drop_length, bd, List.append_nil] at hc
   refine ⟨[200], _, _, rfl, ?_, rfl, rfl⟩
   rw [<- hc]
   rfl
end Go.Proofs.YtnbnldnfkikakaaGreatDoor

set_option maxRecDepth 100000
namespace NP
open NQ Go
end NP
namespace Go.Proofs.YtnbnldnfkikakaaGreatDoor
open NQ Go NP Go.RowKit
theorem si (z : aq) (hv : aQ z = true) : NQ.Fn cx 30 [.agg (aA z)] (.d (.int .i64 (gC z))) [] := by
 have ho := aS hv
 have hfew := ho.few
 refine ar aB mixed Tryz.func30 (by kernel_rfl) rfl (Nat.le_of_ble_eq_true rfl) ?_; conv => whnf
 obtain ⟨k, s, hk, hs, hp⟩ := j8 (ow.1 hv).start
 have fA := w6 z ⟨z.apex, 4⟩ (by omega)
 rw [hk] at fA
 obtain ⟨d, hd⟩ := wo (ho.set s (List.mem_of_getElem? hs))
 have e : gC z = d.n := by
  unfold gC
  rw [IC ho.rising.pw hs hp, hs]
  simp only [hd]
 (refine ⟨(by kernel_rfl : aO _ _ = true), ?_⟩; conv => whnf)
 (refine ⟨_, _, fA, ?_⟩; conv => whnf)
 refine ⟨Int.natCast_nonneg k, ag s, ay hs, ?_⟩
 conv => whnf
 refine ⟨by decide, bG d, by (show (s.set.data.map bG)[(0 : Int).toNat]? = _; simp [hd]), ?_⟩
 conv => whnf
 exact ae rfl (by rw [e]; rfl)
end Go.Proofs.YtnbnldnfkikakaaGreatDoor
