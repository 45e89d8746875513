/-
  Texts of the proof, merged in build order.
-/
import Derived.Test.YtnbnldnfkikakaaGreatDoorLrbM
import Derived.Test.YtnbnldnfkikakaaGreatDoorMLcv
import Derived.Test.YtnbnldnfkikakaaGreatDoorMVa
import Derived.Test.YtnbnldnfkikakaaGreatDoorMCa
set_option linter.all false
set_option maxRecDepth 100000
namespace NP
open NQ Go
theorem vd {z : aq} {n : Bs} (ho : Ordered z) (h : bw z n ≠ []) : ah (bw z n) = true /\ bo z.sets ⟨bw z n, 2⟩ = true := by
 unfold bw at h ⊢
 cases hf : (bq z.apex z.sets).find? fun c => ar n c with
 | none => rw [hf] at h; exact absurd rfl h
 | some c =>
  have hm := List.mem_of_find?_eq_some hf
  obtain ⟨_, _, h3, _, h5⟩ := Ct ho hm
  exact ⟨h3, h5⟩
theorem A5 {z : aq} {q : ay} (h : bo z.sets q = true) : jv z q.name = true := by
 obtain ⟨s, hs, hp⟩ := dZ.1 h
 have : s.set.name = q.name := congrArg Prod.fst hp
 exact List.any_eq_true.2 ⟨s, hs, by rw [this]; exact dU _⟩
def yt (q : ay) : Bool := q.type == 6 || q.type == 8
end NP
namespace Go.Proofs.YtnbnldnfkikakaaGreatDoor
open NQ Go NP Go.RowKit
end Go.Proofs.YtnbnldnfkikakaaGreatDoor

set_option maxRecDepth 100000
namespace NP
open NQ Go
theorem Gt {a b : Bs} (h : av a b <= 0) : 0 <= av b a := by have := aS.anti a b; omega
theorem Ec {a b : Bs} (h : 0 <= av a b) : av b a <= 0 := by have := aS.anti a b; omega
theorem DG {s n : Bs} (hs : ah s = true) (hn : ah n = true) : (aD s n).1 = ar s n := by unfold aD; rw [if_pos ⟨hs, hn⟩]
theorem oG {z : aq} (ho : Ordered z) {n : Bs} (hn : ah n = true) : exB z.sets n = jv z n := by
 have hp := lj ho.rising
 have ge : ∀ s ∈ z.sets, ar s.set.name n = true -> ∃ i, z.sets[i]? = some s /\ lD z.sets n <= i := fun s hs hu => by
  obtain ⟨i, hi⟩ := List.getElem?_of_mem hs
  exact ⟨i, hi, (oQ hp hi).2 (Gt (kC hu))⟩
 unfold exB jv
 cases hg : z.sets[lD z.sets n]? with
 | none =>
  symm
  rw [List.any_eq_false]
  intro s hs hu
  obtain ⟨i, hi, hle⟩ := ge s hs hu
  have h1 := (List.getElem?_eq_some_iff.1 hi).1
  have h2 := List.getElem?_eq_none_iff.1 hg
  omega
 | some t =>
  have htm := List.mem_of_getElem? hg
  simp only
  rw [DG (ho.name t htm) hn]
  cases hu : ar t.set.name n with
  | true => symm; exact List.any_eq_true.2 ⟨t, htm, hu⟩
  | false =>
   symm
   rw [List.any_eq_false]
   intro s hs hus
   obtain ⟨i, hi, hle⟩ := ge s hs hus
   have hnt : av n t.set.name <= 0 := Ec ((oQ hp hg).1 (Nat.le_refl _))
   have hts : av t.set.name s.set.name <= 0 := by
    rcases Nat.lt_or_eq_of_le hle with hlt | heq
    . obtain ⟨h1, e1⟩ := List.getElem?_eq_some_iff.1 hg
      obtain ⟨h2, e2⟩ := List.getElem?_eq_some_iff.1 hi
      have := List.pairwise_iff_getElem.1 hp _ _ h1 h2 hlt
      rwa [e1, e2] at this
    . rw [<- heq, hg] at hi; cases hi
      have := (aS.zero t.set.name t.set.name).2 rfl
      omega
   have := kD (dU n) hus hnt hts
   rw [hu] at this; cases this
theorem GN {v : View} {l : List Datum} {q : Int} (hq : q ∈ dv v l) : q < v.sets.length := by
 unfold dv at hq
 obtain ⟨x, _, hx⟩ := List.mem_flatMap.1 hq
 split at hx
 . simp at hx; rw [hx]; exact cE _ _
 . cases hx
theorem vB {v : View} {q : Int} (hq : q ∈ dj v) : q < v.sets.length := by
 unfold dj at hq
 rcases List.mem_append.1 hq with hq | hq
 . simp at hq
   rcases hq with rfl | rfl
   . exact cE _ _
   . unfold ig; split <;> exact cE _ _
 . exact GN hq
end NP

set_option maxRecDepth 100000
namespace NP
open NQ Go
theorem ye (l : List Signed) : ∀ (ps seen : List Int), (bC l seen ps).length <= ps.length
 | [], _ => by simp [bC]
 | p :: t, seen => by
  have := ye l t (seen ++ [p])
  rw [bC]
  split
  . rw [List.length_cons]; omega
  . rw [List.length_cons, List.length_cons]; omega
theorem oP {l : List Signed} : ∀ {ps seen : List Int}, (∀ p ∈ ps, p < l.length) -> ∀ s ∈ bC l seen ps, ∃ p ∈ ps, p ∉ seen /\ 0 <= p /\ l[p.toNat]? = some s
 | [], _, _, s, hs => by simp [bC] at hs
 | p :: t, seen, hp, s, hs => by
  rw [bC] at hs
  split at hs
  . obtain ⟨q, h1, h2, h3⟩ := oP (fun q hq => hp q (List.mem_cons_of_mem _ hq)) s hs
    exact ⟨q, List.mem_cons_of_mem _ h1, fun e => h2 (List.mem_append.2 (.inl e)), h3⟩
  . rename_i hc
    simp only [Bool.or_eq_true, decide_eq_true_eq, List.contains_iff_mem, not_or] at hc
    have hlt := hp p (List.mem_cons_self ..)
    obtain ⟨x, hx⟩ : ∃ x, l[p.toNat]? = some x := ⟨_, List.getElem?_eq_getElem (by omega)⟩
    rw [hx] at hs
    rcases List.mem_cons.1 hs with e | hs
    . have e : s = x := e
      subst e
      exact ⟨p, List.mem_cons_self .., hc.2, by omega, hx⟩
    . obtain ⟨q, h1, h2, h3⟩ := oP (fun q hq => hp q (List.mem_cons_of_mem _ hq)) s hs
      exact ⟨q, List.mem_cons_of_mem _ h1, fun e => h2 (List.mem_append.2 (.inl e)), h3⟩
theorem kO (v : View) : (aG v).sets = v.sets := by unfold aG; split <;> rfl
theorem yU {v : View} (hd : (jg v).length <= 900) : ∃ ps : List Int, (∀ p ∈ ps, p < v.sets.length) /\ ps.length <= 1000 /\ (cO v).sets = bC v.sets [] ps := by
 have e := kO v
 have hl := mZ v (jg v)
 unfold cO
 split
 . rename_i h
   refine ⟨dj v, fun p hp => vB hp, ?_, ?_⟩
   . unfold dj; simp; omega
   . unfold ik; rw [if_pos h]
 split
 . exact ⟨_, by simp [cE], by simp, rfl⟩
 split
 . exact ⟨_, by simp [cE], by simp, rfl⟩
 split
 . rename_i h
   refine ⟨[fK v, fk v.sets v.q.name], by simp [fK, cE, dY], by simp, ?_⟩
   unfold jz; rw [if_pos h]
 split
 . refine ⟨[_, _], ?_, by simp, by unfold pc; rw [e]⟩
   intro p hp; simp only [List.mem_cons, List.not_mem_nil, or_false] at hp
   rcases hp with rfl | rfl
   . exact cE _ _
   . exact dY _ _
 split
 . refine ⟨[_, _], ?_, by simp, by unfold j4; rw [e]⟩
   intro p hp; simp only [List.mem_cons, List.not_mem_nil, or_false] at hp
   rcases hp with rfl | rfl
   . exact cE _ _
   . exact dY _ _
 split
 . rename_i h
   refine ⟨[_, _, _], ?_, by simp, by unfold jH; rw [if_pos h, e]⟩
   intro p hp; simp only [List.mem_cons, List.not_mem_nil, or_false] at hp
   rcases hp with rfl | rfl | rfl
   . unfold fK; rw [e]; exact cE _ _
   . exact dY _ _
   . exact dY _ _
 . refine ⟨[_, _, _], ?_, by simp, by unfold l6; rw [e]⟩
   intro p hp; simp only [List.mem_cons, List.not_mem_nil, or_false] at hp
   have hpos : (0 : Int) <= v.sets.length := by omega
   rcases hp with rfl | rfl | rfl
   . unfold fK; rw [e]; exact cE _ _
   . exact dY _ _
   . split
     . omega
     . exact dY _ _
theorem s4 {z : aq} (hf : ep z = true) (q : ay) : ∃ ps : List Int, (∀ p ∈ ps, p < z.sets.length) /\ ps.length <= 1000 /\ (bn z q).1.sets = bC z.sets [] ps := by
 have none : ∃ ps : List Int, (∀ p ∈ ps, p < z.sets.length) /\ ps.length <= 1000 /\ ([] : List Signed) = bC z.sets [] ps := ⟨[], by simp, by simp, rfl⟩
 unfold bn
 split
 . exact none
 split
 . exact none
 split
 . exact none
 . refine yU (v := mN z q _ _) ?_
   unfold jg
   split
   . rename_i s hs
     have := ((dN hf).2 s (List.mem_of_getElem? hs)).1
     omega
   . simp
theorem zI {z : aq} (hf : ep z = true) (q : ay) : ∀ s ∈ (bn z q).1.sets, s ∈ z.sets := by
 obtain ⟨ps, h1, _, h3⟩ := s4 hf q
 rw [h3]
 intro s hs
 obtain ⟨p, _, _, _, h⟩ := oP h1 s hs
 exact List.mem_of_getElem? h
theorem um {z : aq} (hf : ep z = true) (q : ay) : (bn z q).1.sets.length <= 1000 := by
 obtain ⟨ps, h1, h2, h3⟩ := s4 hf q
 rw [h3]
 have := ye z.sets ps []
 omega
theorem Ce {z : aq} (hf : ep z = true) (q : ay) : ∀ s ∈ (bn z q).1.sets, s.set.data.length <= 100000 /\ s.sigs.length <= 100000 := fun s hs => by
 have := (dN hf).2 s (zI hf q s hs)
 omega
end NP

set_option maxRecDepth 100000
namespace NP
open NQ Go
structure Use (z : aq) (q : ay) : Prop where
 few : ep z = true
 val : aO z = true
 quest : bc q = true
 under : ar q.name z.apex = true
theorem Use.name {z : aq} {q : ay} (u : Use z q) : ah q.name = true := by have := u.quest; unfold bc at this; simp only [Bool.and_eq_true] at this; exact this.1.1
theorem Use.ord {z : aq} {q : ay} (u : Use z q) : Ordered z := aW u.val
def vw (z : aq) (q : ay) : View := mN z q (bw z q.name) (!(bw z q.name == []))
theorem Use.cut {z : aq} {q : ay} (u : Use z q) : dH z q.name = (bw z q.name, !(bw z q.name == []), 0) := Gv u.val u.name u.under
theorem Use.ans {z : aq} {q : ay} (u : Use z q) : bn z q = (cO (vw z q), 0) := by
 have hq := u.quest
 unfold bc at hq
 simp only [Bool.and_eq_true, decide_eq_true_eq] at hq
 unfold bn
 rw [if_neg (by simp; omega), u.cut]
 rfl
theorem sR (z : aq) (q : ay) : cH (vw z q) = (!(bw z q.name == []) && !((bw z q.name == q.name) && yt q)) := by
 unfold cH s8 yt vw mN
 dsimp only
 rw [Bool.beq_comm (a := q.name) (b := bw z q.name)]
 cases (bw z q.name == []) <;> cases (bw z q.name == q.name) <;> simp
theorem px (v : View) : (cO v).kind = if cH v = true then 4 else if oF v = true then 1 else if kV v = true then 3 else if exB v.sets v.q.name = true then 5
 else if pd (aG v) = true then 2 else if gy (aG v) = true then 3 else if jI (aG v) = true then 5 else 6 := by
 unfold cO
 split
 . rename_i h; unfold ik; rw [if_pos h]
 split
 . rfl
 split
 . rfl
 split
 . rename_i h; unfold jz; rw [if_pos h]
 split
 . rfl
 split
 . rfl
 split
 . rename_i h; unfold jH; rw [if_pos h]
 . rfl
theorem Ew (z : aq) (q : ay) : oF (vw z q) = bo z.sets q := by
 have h := kj z.sets q
 show decide (atI z.sets q >= 0) = _
 cases hh : bo z.sets q with
 | true =>
  rw [hh] at h
  have : ¬ atI z.sets q < 0 := by simpa using h
  exact decide_eq_true (by omega)
 | false =>
  rw [hh] at h
  have : atI z.sets q < 0 := by simpa using h
  exact decide_eq_false (by omega)
theorem Fq {z : aq} (ho : Ordered z) {q : ay} {s : Signed} (hs : s ∈ z.sets) (hp : s.place = q.place) : bC z.sets [] [atI z.sets q] = [s] := by
 obtain ⟨k, t, h1, h2, h3⟩ := qH (dZ.2 ⟨s, hs, hp⟩)
 have : t = s := RP.uniq ho.rising.pw (List.mem_of_getElem? h2) hs (h3.trans hp.symm)
 subst this
 rw [h1, bC]
 simp [h2, bC]
theorem Use.data {z : aq} {q : ay} (u : Use z q) (hr : cH (vw z q) = false) {s : Signed} (hs : s ∈ z.sets) (hp : s.place = q.place) : (bn z q).1 = ⟨1, [s], []⟩ := by
 rw [u.ans]
 show cO (vw z q) = _
 unfold cO
 rw [if_neg (by simp [hr]), if_pos (by rw [Ew]; exact dZ.2 ⟨s, hs, hp⟩)]
 unfold tr
 have := Fq u.ord hs hp
 show (⟨1, bC z.sets [] [atI z.sets q], []⟩ : Ans) = _
 rw [this]
theorem Use.find {z : aq} {q : ay} (u : Use z q) : ∃ s has, iz z q = (s, has, 0) /\ has = bo z.sets q /\ (has = true -> s ∈ z.sets /\ s.place = q.place) := by
 cases hh : bo z.sets q with
 | true =>
  obtain ⟨s, h1, h2, h3⟩ := GH u.val u.quest hh
  exact ⟨s, true, h3, rfl, fun _ => ⟨h1, h2⟩⟩
 | false => exact ⟨_, false, EL u.val u.quest hh, rfl, fun h => by cases h⟩
end NP

set_option maxRecDepth 100000
namespace NP
open NQ Go
theorem DY {v : View} (h : cH v = false) : (cO v).cut = [] := by
 unfold cO
 rw [if_neg (by simp [h])]
 repeat' split
 all_goals first | rfl | skip
 . unfold jz; split <;> rfl
 . unfold jH; split <;> rfl
theorem Use.G7 {z : aq} {q : ay} (u : Use z q) (hr : cH (vw z q) = false) : ((bn z q).1.kind == 4) = false /\ (bn z q).1.cut = [] := by
 rw [u.ans]
 refine ⟨?_, DY hr⟩
 show ((cO (vw z q)).kind == 4) = false
 rw [px, hr]
 simp only [Bool.false_eq_true, ↓reduceIte]
 repeat' split
 all_goals rfl
theorem Use.I0 {z : aq} {q : ay} (u : Use z q) (hr : cH (vw z q) = true) : ∃ s0 R, s0 ∈ z.sets /\ s0.place = (bw z q.name, 2) /\ (bn z q).1 = ⟨4, s0 :: R, bw z q.name⟩ /\
 ∀ s ∈ R, (s.set.type = 6 /\ s.set.name = bw z q.name) \/ (s.set.type = 8 /\ s.set.name = bw z q.name) \/ (s.set.type = 1 /\ aD s.set.name (bw z q.name) = (true, 0) /\ s0.set.data.any (fun d => d.text == s.set.name) = true) := by
 have hne : bw z q.name ≠ [] := by
  intro e; rw [sR, e] at hr; cases hr
 obtain ⟨hcv, hcut⟩ := vd u.ord hne
 have ho := u.ord
 obtain ⟨k, s0, h1, h2, h3⟩ := qH hcut
 have hm0 := List.mem_of_getElem? h2
 have hserv : df (vw z q) = ((k : Nat) : Int) := h1
 have hsd : jg (vw z q) = s0.set.data := by
  unfold jg
  rw [hserv]
  show (match z.sets[((k : Nat) : Int).toNat]? with | some s => s.set.data | none => []) = _
  rw [show ((k : Nat) : Int).toNat = k by simp, h2]
 have hlt : ∀ p ∈ dj (vw z q), p < z.sets.length := fun p hp => vB (v := vw z q) hp
 have e1 : bC z.sets [] (dj (vw z q)) = s0 :: bC z.sets [df (vw z q)] (ig (vw z q) :: dv (vw z q) (jg (vw z q))) := by
  unfold dj
  rw [show [df (vw z q), ig (vw z q)] ++ dv (vw z q) (jg (vw z q)) = df (vw z q) :: (ig (vw z q) :: dv (vw z q) (jg (vw z q))) from rfl, bC, if_neg (by rw [hserv]; simp)]
  rw [hserv]
  simp [h2]
 refine ⟨s0, bC z.sets [df (vw z q)] (ig (vw z q) :: dv (vw z q) (jg (vw z q))), hm0, h3, ?_, fun s hs => ?_⟩
 . rw [u.ans]
   show cO (vw z q) = _
   unfold cO
   rw [if_pos hr]
   unfold ik
   rw [if_pos hr]
   show (⟨4, bC z.sets [] (dj (vw z q)), bw z q.name⟩ : Ans) = _
   rw [e1]
 . obtain ⟨p, hp1, hp2, hp3, hp4⟩ := oP (fun p hp => hlt p (by unfold dj; exact List.mem_cons_of_mem _ hp)) s hs
   have hsm := List.mem_of_getElem? hp4
   have atp : ∀ q' : ay, p = atI z.sets q' -> s.place = q'.place := fun q' e => by
    have hh : bo z.sets q' = true := by
     have := kj z.sets q'
     cases hc : bo z.sets q' with
     | true => rfl
     | false => rw [hc] at this; simp at this; omega
    obtain ⟨j, t, a1, a2, a3⟩ := qH hh
    rw [a1] at e
    have : p.toNat = j := by omega
    rw [this, a2] at hp4; cases hp4; exact a3
   rcases List.mem_cons.1 hp1 with hp | hp
   . unfold ig at hp
     split at hp
     . have := atp ⟨bw z q.name, 8⟩ hp
       exact .inr (.inl ⟨congrArg Prod.snd this, congrArg Prod.fst this⟩)
     . have := atp ⟨bw z q.name, 6⟩ hp
       exact .inl ⟨congrArg Prod.snd this, congrArg Prod.fst this⟩
   . unfold dv at hp
     obtain ⟨d, hd, hx⟩ := List.mem_flatMap.1 hp
     split at hx
     . rename_i hu
       simp at hx
       have := atp ⟨d.text, 1⟩ hx
       have hn : s.set.name = d.text := congrArg Prod.fst this
       refine .inr (.inr ⟨congrArg Prod.snd this, ?_, ?_⟩)
       . have hv := ho.name s hsm
         have hu' : (aD d.text (bw z q.name)).1 = true := hu
         rw [<- hn] at hu'
         unfold aD at hu' ⊢
         rw [if_pos ⟨hv, hcv⟩] at hu' ⊢
         simp only at hu'
         rw [hu']
       . rw [hsd] at hd
         exact List.any_eq_true.2 ⟨d, hd, by rw [hn]; simp⟩
     . cases hx
end NP

set_option maxRecDepth 100000
namespace NP
open NQ Go
theorem IG {z y : aq} (ha : y.apex = z.apex) (h : ∀ s : Signed, s.set.type = 2 -> (s ∈ y.sets ↔ s ∈ z.sets)) (c : Bs) : c ∈ bq y.apex y.sets ↔ c ∈ bq z.apex z.sets := by
 rw [fO, fO, ha]
 have ht : ∀ s : Signed, cd z.apex s = true -> s.set.type = 2 := fun s hs => by unfold cd at hs; simp only [Bool.and_eq_true, beq_iff_eq] at hs; exact hs.1
 constructor
 . rintro ⟨s, h1, h2, h3⟩; exact ⟨s, (h s (ht s h2)).1 h1, h2, h3⟩
 . rintro ⟨s, h1, h2, h3⟩; exact ⟨s, (h s (ht s h2)).2 h1, h2, h3⟩
theorem He {z : aq} (ho : Ordered z) (s : Signed) (y : Signed) : y ∈ (bp z s).sets ↔ y = s \/ (y ∈ z.sets /\ y.place ≠ s.place) := by
 rw [jB ho, kx s ho.rising.pw]
theorem Jq {z : aq} (ho : Ordered z) {s : Signed} (ht : s.set.type ≠ 2) (y : Signed) (hy : y.set.type = 2) : y ∈ (bp z s).sets ↔ y ∈ z.sets := by
 rw [He ho]
 constructor
 . rintro (rfl | ⟨h, _⟩)
   . exact absurd hy ht
   . exact h
 . intro h
   refine .inr ⟨h, fun e => ht ?_⟩
   have : y.set.type = s.set.type := congrArg Prod.snd e
   rw [<- this]; exact hy
theorem Dx {m : Bs} (h : gu m ≠ []) : cB (gu m) = true := by
 unfold gu at h ⊢
 unfold dw at h ⊢
 split
 . show cB (nameOf ([42] :: aK m)) = true
   rw [C5 (by simp)]
   cases aK m with
   | nil => rfl
   | cons x t => rw [ez _ _ (by simp)]; rfl
 . rename_i hc; rw [if_neg hc] at h; exact absurd rfl h
theorem qE {v : View} (hx : exB v.sets v.q.name = false) : (aG v).bH = gu (kY v.apex v.sets v.q.name) := by
 unfold aG; rw [if_neg (by simp [hx])]
theorem FG (n : Bs) : gu n = [] \/ ah (gu n) = true := by
 unfold gu
 unfold dw
 split
 . rename_i h; exact .inr (zY h).1
 . exact .inl rfl
theorem Use.bH {z : aq} {q : ay} (u : Use z q) (hk : (bn z q).1.kind = 2) : cH (vw z q) = false /\ jv z q.name = false /\ ∃ s0 R, (bn z q).1.sets = s0 :: R /\ cB s0.set.name = true /\ s0.set.type = q.type := by
 have ho := u.ord
 rw [u.ans] at hk ⊢
 have hk' : (cO (vw z q)).kind = 2 := hk
 rw [px] at hk'
 cases hr : cH (vw z q) with
 | true => rw [hr] at hk'; simp at hk'
 | false =>
 cases hd : oF (vw z q) with
 | true => rw [hr, hd] at hk'; simp at hk'
 | false =>
 cases ha : kV (vw z q) with
 | true => rw [hr, hd, ha] at hk'; simp at hk'
 | false =>
 cases hx : exB (vw z q).sets (vw z q).q.name with
 | true => rw [hr, hd, ha, hx] at hk'; simp at hk'
 | false =>
 cases hw : pd (aG (vw z q)) with
 | false =>
  rw [hr, hd, ha, hx, hw] at hk'
  simp only [Bool.false_eq_true, ↓reduceIte] at hk'
  exfalso
  revert hk'
  repeat' split
  all_goals omega
 | true =>
 have hx' : jv z q.name = false := by rw [<- oG ho u.name]; exact hx
 refine ⟨rfl, hx', ?_⟩
 have hans : cO (vw z q) = pc (aG (vw z q)) := by
  unfold cO
  rw [if_neg (by simp [hr]), if_neg (by simp [hd]), if_neg (by simp [ha]), if_neg (by simp [hx]), if_pos hw]
 have hq : (aG (vw z q)).q = q := by unfold aG; split <;> rfl
 have hs : (aG (vw z q)).sets = z.sets := kO _
 have hat : 0 <= atI z.sets ⟨(aG (vw z q)).bH, q.type⟩ := by
  unfold pd at hw
  rw [hs, hq] at hw
  simpa using hw
 obtain ⟨k, s, h1, h2, h3⟩ := qH (l := z.sets) (q := ⟨(aG (vw z q)).bH, q.type⟩) (by
  have := kj z.sets ⟨(aG (vw z q)).bH, q.type⟩
  cases hh : bo z.sets ⟨(aG (vw z q)).bH, q.type⟩ with
  | true => rfl
  | false => rw [hh] at this; simp at this; omega)
 have hsn : s.set.name = (aG (vw z q)).bH := congrArg Prod.fst h3
 have hst : s.set.type = q.type := congrArg Prod.snd h3
 refine ⟨s, bC z.sets ([] ++ [((k : Nat) : Int)]) [fk z.sets q.name], ?_, ?_, hst⟩
 . show (cO (vw z q)).sets = _
   rw [hans]
   unfold pc
   rw [hs, hq, h1]
   show bC z.sets [] [((k : Nat) : Int), fk z.sets q.name] = _
   rw [bC, if_neg (by simp)]
   simp [h2]
 . rw [hsn, qE hx]
   refine Dx ?_
   rw [<- qE hx, <- hsn]
   exact jX (ho.name s (List.mem_of_getElem? h2))
theorem Use.none {z : aq} {q : ay} (u : Use z q) (hk : (bn z q).1.kind = 6) : jv z q.name = false /\ bw z q.name = [] /\ ((aG (vw z q)).bH = [] \/ jv z (aG (vw z q)).bH = false) := by
 have ho := u.ord
 rw [u.ans] at hk
 have hk' : (cO (vw z q)).kind = 6 := hk
 rw [px] at hk'
 cases hr : cH (vw z q) with
 | true => rw [hr] at hk'; simp at hk'
 | false =>
 cases hd : oF (vw z q) with
 | true => rw [hr, hd] at hk'; simp at hk'
 | false =>
 cases ha : kV (vw z q) with
 | true => rw [hr, hd, ha] at hk'; simp at hk'
 | false =>
 cases hx : exB (vw z q).sets (vw z q).q.name with
 | true => rw [hr, hd, ha, hx] at hk'; simp at hk'
 | false =>
 have hx' : jv z q.name = false := by rw [<- oG ho u.name]; exact hx
 cases hw : pd (aG (vw z q)) with
 | true => rw [hr, hd, ha, hx, hw] at hk'; simp at hk'
 | false =>
 cases hwa : gy (aG (vw z q)) with
 | true => rw [hr, hd, ha, hx, hw, hwa] at hk'; simp at hk'
 | false =>
 cases hwn : jI (aG (vw z q)) with
 | true => rw [hr, hd, ha, hx, hw, hwa, hwn] at hk'; simp at hk'
 | false =>
 refine ⟨hx', ?_, ?_⟩
 . cases hc : (bw z q.name == []) with
   | true => simpa using hc
   | false =>
    have hne : bw z q.name ≠ [] := by simpa using hc
    rw [sR, hc] at hr
    simp only [Bool.not_false, Bool.true_and, Bool.not_eq_false', Bool.and_eq_true, beq_iff_eq] at hr
    obtain ⟨_, h2⟩ := vd ho hne
    have := A5 h2
    rw [hr.1] at this
    rw [hx'] at this; cases this
 . unfold jI at hwn
   rw [kO] at hwn
   cases hw0 : ((aG (vw z q)).bH == []) with
   | true => exact .inl (by simpa using hw0)
   | false =>
    rw [hw0] at hwn
    have hwne : (aG (vw z q)).bH ≠ [] := by simpa using hw0
    have hwv : ah (aG (vw z q)).bH = true := by
     rw [qE hx] at hwne ⊢
     have := FG (kY (vw z q).apex (vw z q).sets (vw z q).q.name)
     exact this.resolve_left hwne
    refine .inr ?_
    rw [<- oG ho hwv]
    have h5 : (!false && exB (vw z q).sets (aG (vw z q)).bH) = false := hwn
    rw [Bool.not_false, Bool.true_and] at h5
    exact h5
end NP

set_option maxRecDepth 100000
namespace NP
open NQ Go
end NP
namespace Go.Proofs.YtnbnldnfkikakaaGreatDoor
open NQ Go NP Go.RowKit
theorem tR (a b : Ans) (ha : a.sets.length <= 100000) (hs : ∀ s ∈ a.sets, s.set.data.length <= 100000 /\ s.sigs.length <= 100000) : NQ.Fn cx 18 [.agg (eh a), .agg (eh b)] (.d (.bool (decide (a = b)))) [] := by
 refine ao az mixed Tryz.func18 (by kernel_rfl) rfl (Nat.le_of_ble_eq_true rfl) ?_; conv => whnf
 (refine ⟨_, _, zr a.sets b.sets ha hs, ?_⟩; conv => whnf)
 refine ab (fun h1 => ?_) (fun h1 => ?_) <;> (rw [h1]; conv => whnf)
 . refine ab (fun h2 => ?_) (fun h2 => ?_) <;> (rw [h2]; conv => whnf)
   . refine ae rfl ?_
     have e1 : a.sets = b.sets := by simpa using h1
     have e2 : a.kind = b.kind := by simpa using h2
     show AV.d (D.bool (a.cut == b.cut)) = _
     congr 2
     obtain ⟨ka, sa, ca⟩ := a
     obtain ⟨kb, sb, cb⟩ := b
     simp only at e1 e2
     subst e1; subst e2
     by_cases e : ca = cb
     . subst e; rw [decide_eq_true rfl]; simp
     . rw [decide_eq_false (fun h => e (by cases h; rfl))]; simpa using e
   . exact ae rfl (je fun e => by rw [e] at h2; simp at h2)
 . exact ae rfl (je fun e => by rw [e] at h1; simp at h1)
end Go.Proofs.YtnbnldnfkikakaaGreatDoor
