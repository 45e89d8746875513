/-
  Texts of the proof, merged in build order.
-/
import Derived.Test.YtnbnldnfkikakaaGreatDoorMGa
import Derived.Test.YtnbnldnfkikakaaGreatDoorQsoM
import Derived.Test.YtnbnldnfkikakaaGreatDoorSortM
import Derived.Test.YtnbnldnfkikakaaGreatDoorMLrc
import Derived.Test.YtnbnldnfkikakaaGreatDoorMCa
import Derived.Test.YtnbnldnfkikakaaGreatDoorMVa
set_option linter.all false
set_option maxRecDepth 100000
namespace NP
open NQ Go
theorem xm (s : Bs) : 0 <= cZ s /\ cZ s <= 8 := by
 unfold cZ cg
 split
 . rename_i h; have := z6 h; dsimp only; omega
 . simp
def gR (a b : aq) : Int := cZ b.apex - cZ a.apex
def Ch : List D -> Bs
 | .str s :: _ => s
 | _ => []
def F2 (x y : List D) : Int := cZ (Ch y) - cZ (Ch x)
theorem qK (l : List aq) : iv gR l := iv.key (fun z => - cZ z.apex) fun x _ y _ => by unfold gR; omega
theorem BN (l : List aq) : c9 F2 (l.map aL) = (c9 gR l).map aL := Dv aL gR F2 l fun x _ y _ => rfl
def jD (k : Int) (q : ay) (p : af) : Bool := decide (p.host = k) && (aD q.name p.zone.apex).1
def bM (zs : List af) (k : Int) (q : ay) : List aq := (zs.filter (jD k q)).map (·.zone)
def lL (l : List ja) (a : Int) : Int := match l.findIdx? (fun h => h.addr == a) with | some k => (k : Int) | none => -1
def lO (q : ay) (l : List aq) : Option aq := match l with
 | [] => none
 | z :: t => if ((q.type == 6) && (z.apex == q.name)) = true then (match t with | y :: _ => some y | [] => some z) else some z
def jM (w : bg) (a : Int) (q : ay) : Ans × Int :=
 if (bt w && bc q) = false then (fj, 1) else if lL w.hosts a < 0 then (fj, 4)
 else match lO q (c9 gR (bM w.zones (lL w.hosts a) q)) with
  | none => (⟨7, [], []⟩, 0)
  | some z => bn z q
end NP
namespace Go.Proofs.YtnbnldnfkikakaaGreatDoor
open NQ Go NP Go.RowKit
noncomputable def si : Cx := { cx with chg := fun g => match Nat.beq g 41 with | true => 2 | false => cx.chg g }
theorem Jl : aP si := az
theorem G5 : si.P.follows .mixedOrders = true := mixed
theorem Gp (a b : aq) : NQ.Fn cx 42 [.agg (aL a), .agg (aL b)] (.d (.int .i64 (gR a b))) [] := by
 refine ao az mixed Tryz.func42 (by kernel_rfl) rfl (Nat.le_of_ble_eq_true rfl) ?_; conv => whnf
 (refine ⟨(by kernel_rfl : aH _ _ = true), ?_⟩; conv => whnf)
 (refine ⟨_, _, qD b.apex, ?_⟩; conv => whnf)
 (refine ⟨_, _, qD a.apex, ?_⟩; conv => whnf)
 refine ae rfl ?_
 show AV.d (.int .i64 (IntKind.i64.wrap (cZ b.apex - cZ a.apex))) = _
 have h1 := xm a.apex
 have h2 := xm b.apex
 rw [wrap_i64 (by omega) (by omega)]; rfl
theorem Dw (l : List aq) (hl : l.length <= 100000) (fl : Bool) : FnR cx 41 false 47 2 (l.map aL) fl [.fn 42 [] []] ((c9 gR l).map aL) := by
 rw [<- BN]
 exact FE (cx := cx) (ρ := Tryz.sort41_ren) Tryz.sort41 (k := 2) Tryz.isAgg47 Tryz.sizeOf47 ⟨_, Tryz.func41, by kernel_rfl, rfl⟩
  (fun x hx y hy => by
   obtain ⟨a, ha, rfl⟩ := List.mem_map.1 hx
   obtain ⟨b, hb, rfl⟩ := List.mem_map.1 hy
   exact Gp a b) (enters_of Tryz.func42 (by kernel_rfl) rfl) ((qK l).map fun x _ y _ => rfl) (by rw [List.length_map]; omega)
end Go.Proofs.YtnbnldnfkikakaaGreatDoor

set_option maxRecDepth 100000
namespace NP
open NQ Go
def eS (ok : af -> Bool) (better : af -> af -> Bool) : Nat -> List af -> Option (Nat × af) -> Option (Nat × af)
 | _, [], b => b
 | i, p :: t, b => eS ok better (i + 1) t (if ok p = true then (match b with | none => some (i, p) | some x => if better p x.2 = true then some (i, p) else b) else b)
def Io : Option (Nat × af) -> Int
 | none => -1
 | some x => (x.1 : Int)
def cj (ok : af -> Bool) (better : af -> af -> Bool) (i : Nat) (p : af) (b : Option (Nat × af)) : Option (Nat × af) := if ok p = true then (match b with | none => some (i, p) | some x => if better p x.2 = true then some (i, p) else b) else b
theorem Cl {ok : af -> Bool} {better : af -> af -> Bool} {l : List af} {k : Nat} {p : af} (h : l[k]? = some p) (b : Option (Nat × af)) : eS ok better k (l.drop k) b = eS ok better (k + 1) (l.drop (k + 1)) (cj ok better k p b) := by
 rw [drop_cons h]; rfl
def iR (zs : List af) (b : Option (Nat × af)) : Prop := ∀ x, b = some x -> zs[x.1]? = some x.2
theorem iR.step {zs : List af} {b : Option (Nat × af)} (h : iR zs b) {ok : af -> Bool} {better : af -> af -> Bool} {i : Nat} {p : af} (hp : zs[i]? = some p) : iR zs (cj ok better i p b) := by
 intro x hx
 unfold cj at hx
 split at hx
 . split at hx
   . cases hx; exact hp
   . split at hx
     . cases hx; exact hp
     . exact h x hx
 . exact h x hx
theorem ur {zs : List af} {ok : af -> Bool} {better : af -> af -> Bool} : ∀ (l : List af) (i : Nat) (b : Option (Nat × af)), (∀ j, l[j]? = zs[i + j]?) -> iR zs b -> iR zs (eS ok better i l b)
 | [], i, b, _, h => h
 | p :: t, i, b, hl, h => ur t (i + 1) _ (fun j => by have := hl (j + 1); simp at this; rw [this]; congr 1; omega) (h.step (by have := hl 0; simpa using this.symm))
theorem mQ {ok : af -> Bool} {better : af -> af -> Bool} : ∀ (l : List af) (i : Nat) (b : Option (Nat × af)), eS ok better i l b = none ↔ (b = none /\ ∀ p ∈ l, ok p = false)
 | [], i, b => by simp [eS]
 | p :: t, i, b => by
  show eS ok better (i + 1) t (cj ok better i p b) = none ↔ _
  rw [mQ t]
  unfold cj
  cases hp : ok p <;> cases b <;> simp [hp]
  intro h; split at h <;> cases h
theorem wZ {ok : af -> Bool} {key : af -> Int} : ∀ (l : List af) (i : Nat) (b : Option (Nat × af)) (x : Nat × af), eS ok (fun p q => decide (key q < key p)) i l b = some x ->
 (b = some x \/ (x.2 ∈ l /\ ok x.2 = true)) /\ (∀ y, b = some y -> key y.2 <= key x.2) /\ ∀ p ∈ l, ok p = true -> key p <= key x.2
 | [], i, b, x, h => by cases h; exact ⟨.inl rfl, fun y hy => by cases hy; exact Int.le_refl _, fun p hp => by cases hp⟩
 | p :: t, i, b, x, h => by
  obtain ⟨h1, h2, h3⟩ := wZ t (i + 1) (cj ok (fun p q => decide (key q < key p)) i p b) x h
  unfold cj at h1 h2
  by_cases hp : ok p = true
  . rw [if_pos hp] at h1 h2
    cases b with
    | none =>
     refine ⟨.inr ?_, fun y hy => (by cases hy), fun q hq hoq => ?_⟩
     . rcases h1 with h1 | h1
       . cases h1; exact ⟨List.mem_cons_self .., hp⟩
       . exact ⟨List.mem_cons_of_mem _ h1.1, h1.2⟩
     . rcases List.mem_cons.1 hq with rfl | hq
       . exact h2 (i, q) rfl
       . exact h3 q hq hoq
    | some y =>
     dsimp only at h1 h2
     by_cases hb : key y.2 < key p
     . rw [if_pos (decide_eq_true hb)] at h1 h2
       have hpx := h2 (i, p) rfl
       refine ⟨.inr ?_, fun z hz => by cases hz; dsimp only at hpx; omega, fun q hq hoq => ?_⟩
       . rcases h1 with h1 | h1
         . cases h1; exact ⟨List.mem_cons_self .., hp⟩
         . exact ⟨List.mem_cons_of_mem _ h1.1, h1.2⟩
       . rcases List.mem_cons.1 hq with rfl | hq
         . exact hpx
         . exact h3 q hq hoq
     . rw [if_neg (by simpa using hb)] at h1 h2
       have hyx := h2 y rfl
       refine ⟨?_, fun z hz => h2 z hz, fun q hq hoq => ?_⟩
       . rcases h1 with h1 | h1
         . exact .inl h1
         . exact .inr ⟨List.mem_cons_of_mem _ h1.1, h1.2⟩
       . rcases List.mem_cons.1 hq with rfl | hq
         . omega
         . exact h3 q hq hoq
  . rw [if_neg hp] at h1 h2
    refine ⟨?_, h2, fun q hq hoq => ?_⟩
    . rcases h1 with h1 | h1
      . exact .inl h1
      . exact .inr ⟨List.mem_cons_of_mem _ h1.1, h1.2⟩
    . rcases List.mem_cons.1 hq with rfl | hq
      . exact absurd hoq hp
      . exact h3 q hq hoq
def ie (s : Bs) : Int := ((aK s).length : Int)
theorem yY {s : Bs} (h : ah s = true) : cZ s = ie s := by unfold cZ ie cg; rw [if_pos h]
theorem yE {s a : Bs} (hs : ah s = true) (ha : ah a = true) : (aD s a).1 = ar s a := by unfold aD; rw [if_pos ⟨hs, ha⟩]
theorem FT {s : Bs} (h : ah s = true) : s ≠ [] := by rintro rfl; revert h; decide
def mf (host : Int) (nm nt : Bs) (p : af) : Bool := !((decide (host >= 0) && (p.host != host)) || (p.zone.apex == nt) || !ar nm p.zone.apex)
def lA (p : af) : Int := ie p.zone.apex
def H4 (p q : af) : Bool := decide (lA q < lA p)
def jc (zs : List af) (host : Int) (nm nt : Bs) : Option (Nat × af) := eS (mf host nm nt) H4 0 zs none
def oD (zs : List af) (a : Bs) : Option (Nat × af) := eS (fun p => p.zone.apex == a) eB 0 zs none
theorem vM {zs : List af} {a : Bs} : ∀ (l : List af) (i : Nat) (m : List (Bs × Nat)) (b : Option (Nat × af)), (∀ j, l[j]? = zs[i + j]?) -> iR zs b -> dy a m = b.map (·.1) -> dy a (iY zs i l m) = (eS (fun p => p.zone.apex == a) eB i l b).map (·.1)
 | [], i, m, b, _, _, h => h
 | p :: t, i, m, b, hl, hb, h => by
  have hp : zs[i]? = some p := by have := hl 0; simpa using this.symm
  show dy a (iY zs (i + 1) t (if fg zs m p = true then kE p.zone.apex i m else m)) = (eS (fun p => p.zone.apex == a) eB (i + 1) t (cj (fun p => p.zone.apex == a) eB i p b)).map (·.1)
  refine vM t (i + 1) _ _ (fun j => by have := hl (j + 1); simp at this; rw [this]; congr 1; omega) (hb.step hp) ?_
  by_cases ha : p.zone.apex = a
  . have hb' : ∀ b, cj (fun p => p.zone.apex == a) eB i p b = (match b with | none => some (i, p) | some x => if eB p x.2 = true then some (i, p) else b) := fun b => by
     unfold cj; exact if_pos (by show (p.zone.apex == a) = true; rw [ha]; exact beq_self_eq_true a)
    rw [hb']
    cases b with
    | none =>
     have ht : fg zs m p = true := by unfold fg; rw [ha, h]; rfl
     rw [if_pos ht, ll, if_pos ha]; rfl
    | some x =>
     have hx := hb x rfl
     have ht : fg zs m p = eB p x.2 := by unfold fg; rw [ha, h]; simp only [Option.map_some]; rw [hx]
     dsimp only
     rw [ht]
     split
     . rw [ll, if_pos ha]; rfl
     . exact h
  . have hb' : cj (fun p => p.zone.apex == a) eB i p b = b := by unfold cj; exact if_neg (by simpa using ha)
    rw [hb']
    split
    . rw [ll, if_neg ha]; exact h
    . exact h
theorem DD (zs : List af) (a : Bs) : dy a (eE zs) = (oD zs a).map (·.1) := vM zs 0 [] none (fun j => by rw [Nat.zero_add]) (fun x hx => by cases hx) rfl
theorem Em (zs : List af) (a : Bs) : iR zs (oD zs a) := ur zs 0 none (fun j => by rw [Nat.zero_add]) (fun x hx => by cases hx)
theorem Ey (zs : List af) (h : Int) (nm nt : Bs) : iR zs (jc zs h nm nt) := ur zs 0 none (fun j => by rw [Nat.zero_add]) (fun x hx => by cases hx)
theorem ph {n : Nat} : ∀ (l seen : List af), cP n seen l = true -> l.Pairwise (fun x p => cr p x = false) /\ ∀ p ∈ l, seen.any (cr p) = false
 | [], _, _ => ⟨List.Pairwise.nil, fun p hp => by cases hp⟩
 | x :: t, seen, h => by
  unfold cP at h
  simp only [Bool.and_eq_true, Bool.not_eq_true', Bool.or_eq_false_iff] at h
  obtain ⟨h1, h2⟩ := ph t _ h.2
  refine ⟨List.Pairwise.cons (fun p hp => ?_) h1, fun p hp => ?_⟩
  . have := h2 p hp
    rw [List.any_append] at this
    simp only [Bool.or_eq_false_iff, List.any_cons, List.any_nil, Bool.or_false] at this
    exact this.2
  . rcases List.mem_cons.1 hp with rfl | hp
    . exact h.1.1.2
    . have := h2 p hp
      rw [List.any_append] at this
      simp only [Bool.or_eq_false_iff] at this
      exact this.1
theorem zD {w : bg} (h : bt w = true) : w.zones.Pairwise (fun x p => cr p x = false) := by
 unfold bt ix at h
 simp only [Bool.and_eq_true] at h
 exact (ph _ _ h.1.2.1.2).1
theorem vA : ∀ {zs : List af}, zs.Pairwise (fun x p => cr p x = false) -> ∀ {p q : af}, p ∈ zs -> q ∈ zs -> p.host = q.host -> p.zone.apex = q.zone.apex -> p = q
 | [], _, p, q, hp, _, _, _ => by cases hp
 | x :: t, h, p, q, hp, hq, e1, e2 => by
  cases h with | cons h1 h2 =>
  rcases List.mem_cons.1 hp with hp' | hp'
  . rcases List.mem_cons.1 hq with hq' | hq'
    . rw [hp', hq']
    . have := h1 q hq'; rw [<- hp'] at this; unfold cr at this; simp [e1, e2] at this
  . rcases List.mem_cons.1 hq with hq' | hq'
    . have := h1 p hp'; rw [<- hq'] at this; unfold cr at this; simp [e1, e2] at this
    . exact vA h2 hp' hq' e1 e2
theorem E6 {a b s : Bs} (ha : ar s a = true) (hb : ar s b = true) (h : ie a = ie b) : a = b := by
 have h1 := (cw _ _).1 ha
 have h2 := (cw _ _).1 hb
 refine ou ?_
 have hl : (back a).length = (back b).length := by
  unfold ie at h
  rw [back_eq, back_eq, List.length_reverse, List.length_reverse]; omega
 obtain ⟨x, hx⟩ := h1
 obtain ⟨y, hy⟩ := h2
 exact (List.append_inj (hx.trans hy.symm) hl).1
def mJ (zs : List af) (K : Int) (q : ay) : Option (Nat × af) := match (if (q.type == 6) = true then jc zs K q.name q.name else none) with
 | some x => some x
 | none => jc zs K q.name []
def qp (zs : List af) (K : Int) (q : ay) : Ans := match mJ zs K q with
 | none => ⟨7, [], []⟩
 | some x => (bn x.2.zone q).1
structure wx (zs : List af) : Prop where
 valid : ∀ p ∈ zs, ah p.zone.apex = true
 pair : zs.Pairwise (fun x p => cr p x = false)
theorem xl {zs : List af} {K : Int} {nm nt : Bs} {x : Nat × af} (h : jc zs K nm nt = some x) : x.2 ∈ zs /\ mf K nm nt x.2 = true /\ ∀ p ∈ zs, mf K nm nt p = true -> lA p <= lA x.2 := by
 obtain ⟨h1, _, h3⟩ := wZ zs 0 none x h
 rcases h1 with h1 | h1
 . cases h1
 . exact ⟨h1.1, h1.2, h3⟩
theorem iy {K : Int} (hK : 0 <= K) {nm nt : Bs} {p : af} : mf K nm nt p = true ↔ p.host = K /\ p.zone.apex ≠ nt /\ ar nm p.zone.apex = true := by
 unfold mf
 rw [decide_eq_true hK]
 simp
 constructor
 . rintro ⟨⟨h1, h2⟩, h3⟩; exact ⟨h1, h2, h3⟩
 . rintro ⟨h1, h2, h3⟩; exact ⟨⟨h1, h2⟩, h3⟩
theorem CL {zs : List af} (hA : wx zs) {K : Int} {q : ay} (hn : ah q.name = true) {z : aq} : z ∈ bM zs K q ↔ ∃ p ∈ zs, p.host = K /\ ar q.name p.zone.apex = true /\ p.zone = z := by
 unfold bM
 rw [List.mem_map]
 constructor
 . rintro ⟨p, hp, rfl⟩
   obtain ⟨h1, h2⟩ := List.mem_filter.1 hp
   unfold jD at h2
   simp only [Bool.and_eq_true, decide_eq_true_eq] at h2
   exact ⟨p, h1, h2.1, (yE hn (hA.valid p h1)) ▸ h2.2, rfl⟩
 . rintro ⟨p, hp, h1, h2, rfl⟩
   refine ⟨p, List.mem_filter.2 ⟨hp, ?_⟩, rfl⟩
   unfold jD
   simp only [Bool.and_eq_true, decide_eq_true_eq]
   exact ⟨h1, (yE hn (hA.valid p hp)).trans h2⟩
theorem A8 {zs : List af} (hA : wx zs) {K : Int} {q : ay} : (bM zs K q).Pairwise (fun a b => a.apex ≠ b.apex) := by
 unfold bM
 rw [List.pairwise_map]
 have h := hA.pair.filter (jD K q)
 refine List.Pairwise.imp_of_mem ?_ h
 intro a b ha hb hab e
 have ha' := (List.mem_filter.1 ha).2
 have hb' := (List.mem_filter.1 hb).2
 unfold jD at ha' hb'
 simp only [Bool.and_eq_true, decide_eq_true_eq] at ha' hb'
 unfold cr at hab
 simp [ha'.1, hb'.1, e] at hab
theorem BA {zs : List af} (hA : wx zs) {K : Int} (hK : 0 <= K) {q : ay} (hn : ah q.name = true) : lO q (c9 gR (bM zs K q)) = (mJ zs K q).map fun x => x.2.zone := by
 have hperm := lT (qK (bM zs K q))
 have hsort := yr (qK (bM zs K q))
 have hpair : (c9 gR (bM zs K q)).Pairwise (fun a b => a.apex ≠ b.apex) := (hperm.pairwise_iff (fun {x y} h => Ne.symm h)).2 (A8 hA)
 have hmem : ∀ z, z ∈ c9 gR (bM zs K q) ↔ ∃ p ∈ zs, p.host = K /\ ar q.name p.zone.apex = true /\ p.zone = z := fun z => hperm.mem_iff.trans (CL hA hn)
 generalize c9 gR (bM zs K q) = L at *
 have hdep : ∀ z ∈ L, cZ z.apex = ie z.apex := fun z hz => by
  obtain ⟨p, hp, _, _, rfl⟩ := (hmem z).1 hz
  exact yY (hA.valid p hp)
 have hsrt : ∀ {z t}, L = z :: t -> ∀ y ∈ t, ie y.apex <= ie z.apex := fun {z t} e y hy => by
  subst e
  cases hsort with | cons h1 h2 =>
  have := h1 y hy
  unfold gR at this
  rw [hdep z (by simp), hdep y (by simp [hy])] at this
  omega
 have one : ∀ {p p' : af}, p ∈ zs -> p' ∈ zs -> p.host = K -> p'.host = K -> ar q.name p.zone.apex = true -> ar q.name p'.zone.apex = true -> lA p = lA p' -> p = p' := fun hp hp' h1 h2 u1 u2 hk => vA hA.pair hp hp' (h1.trans h2.symm) (E6 u1 u2 hk)
 have ne0 : ∀ p ∈ zs, p.zone.apex ≠ [] := fun p hp => FT (hA.valid p hp)
 unfold mJ
 cases L with
 | nil =>
  have no : ∀ nt, jc zs K q.name nt = none := fun nt => by
   unfold jc
   rw [mQ]
   refine ⟨rfl, fun p hp => ?_⟩
   cases hc : mf K q.name nt p with
   | false => rfl
   | true =>
    obtain ⟨h1, h2, h3⟩ := (iy hK).1 hc
    have := (hmem p.zone).2 ⟨p, hp, h1, h3, rfl⟩
    cases this
  rw [no, no]; simp [lO]
 | cons z t =>
  obtain ⟨pz, hpz, hzh, hzu, rfl⟩ := (hmem z).1 (List.mem_cons_self ..)
  have hmax : ∀ p ∈ zs, p.host = K -> ar q.name p.zone.apex = true -> lA p <= lA pz := fun p hp h1 h2 => by
   have hm := (hmem p.zone).2 ⟨p, hp, h1, h2, rfl⟩
   rcases List.mem_cons.1 hm with e | hm
   . unfold lA; rw [e]; exact Int.le_refl _
   . exact hsrt rfl _ hm
  have found : ∀ nt (p : af), p ∈ zs -> p.host = K -> ar q.name p.zone.apex = true -> p.zone.apex ≠ nt -> (∀ p' ∈ zs, p'.host = K -> ar q.name p'.zone.apex = true -> p'.zone.apex ≠ nt -> lA p' <= lA p) -> ∃ i, jc zs K q.name nt = some (i, p) := fun nt p hp h1 h2 h3 hm => by
   cases hd : jc zs K q.name nt with
   | none =>
    unfold jc at hd
    rw [mQ] at hd
    have := hd.2 p hp
    rw [(iy hK).2 ⟨h1, h3, h2⟩] at this; cases this
   | some x =>
    obtain ⟨m1, m2, m3⟩ := xl hd
    obtain ⟨k1, k2, k3⟩ := (iy hK).1 m2
    have g1 := m3 p hp ((iy hK).2 ⟨h1, h3, h2⟩)
    have g2 := hm x.2 m1 k1 k3 k2
    have : p = x.2 := one hp m1 h1 k1 h2 k3 (by omega)
    exact ⟨x.1, by rw [this]⟩
  obtain ⟨i0, hi0⟩ := found [] pz hpz hzh hzu (ne0 pz hpz) fun p hp h1 h2 _ => hmax p hp h1 h2
  rw [hi0]
  unfold lO
  dsimp only
  by_cases h6 : (q.type == 6) = true
  . rw [if_pos h6, h6, Bool.true_and]
    by_cases hap : (pz.zone.apex == q.name) = true
    . rw [if_pos hap]
      have hap' : pz.zone.apex = q.name := by simpa using hap
      cases t with
      | nil =>
       have : jc zs K q.name q.name = none := by
        unfold jc
        rw [mQ]
        refine ⟨rfl, fun p hp => ?_⟩
        cases hc : mf K q.name q.name p with
        | false => rfl
        | true =>
         obtain ⟨h1, h2, h3⟩ := (iy hK).1 hc
         have := (hmem p.zone).2 ⟨p, hp, h1, h3, rfl⟩
         simp only [List.mem_singleton] at this
         exact absurd (by rw [this]; exact hap') h2
       rw [this]; rfl
      | cons y t =>
       obtain ⟨py, hpy, hyh, hyu, rfl⟩ := (hmem y).1 (by simp)
       have hne : py.zone.apex ≠ q.name := by
        cases hpair with | cons g1 g2 =>
        have := g1 py.zone (List.mem_cons_self ..)
        rw [hap'] at this
        exact Ne.symm this
       have hsrt2 : ∀ y' ∈ t, ie y'.apex <= ie py.zone.apex := fun y' hy' => by
        cases hsort with | cons g1 g2 =>
        cases g2 with | cons g3 g4 =>
        have := g3 y' hy'
        unfold gR at this
        rw [hdep py.zone (by simp), hdep y' (by simp [hy'])] at this
        omega
       obtain ⟨i1, hi1⟩ := found q.name py hpy hyh hyu hne fun p hp h1 h2 h3 => by
        have hm := (hmem p.zone).2 ⟨p, hp, h1, h2, rfl⟩
        rcases List.mem_cons.1 hm with e | hm
        . exact absurd (by rw [e]; exact hap') h3
        . rcases List.mem_cons.1 hm with e | hm
          . unfold lA; rw [e]; exact Int.le_refl _
          . exact hsrt2 _ hm
       rw [hi1]; rfl
    . rw [if_neg hap]
      have hap' : pz.zone.apex ≠ q.name := by simpa using hap
      obtain ⟨i1, hi1⟩ := found q.name pz hpz hzh hzu hap' fun p hp h1 h2 _ => hmax p hp h1 h2
      rw [hi1]; rfl
  . rw [if_neg h6]
    have : (q.type == 6) = false := by simpa using h6
    rw [this, Bool.false_and]; rfl
end NP

set_option maxRecDepth 100000
namespace NP
open NQ Go
def eI (l : List af) : List Bs := l.foldl (fun out p => if out.contains p.zone.apex = true then out else out ++ [p.zone.apex]) []
theorem rj (l : List af) (p : af) : eI (l ++ [p]) = if (eI l).contains p.zone.apex = true then eI l else eI l ++ [p.zone.apex] := by unfold eI; rw [List.foldl_append]; rfl
theorem AD (l : List af) : (eI l).length <= l.length := by
 have key : ∀ (l : List af) (out : List Bs), (l.foldl (fun out p => if out.contains p.zone.apex = true then out else out ++ [p.zone.apex]) out).length <= out.length + l.length := fun l => by
  induction l with
  | nil => intro out; simp
  | cons p t ih =>
   intro out
   refine Nat.le_trans (ih _) ?_
   dsimp only
   split <;> simp <;> omega
 have := key l []
 rw [List.length_nil, Nat.zero_add] at this
 exact this
theorem tY (a : Bs) (v : D) : ∀ m : List (Bs × D), (cN a v m).map (·.1) = if (m.map (·.1)).contains a = true then m.map (·.1) else m.map (·.1) ++ [a]
 | [] => by simp [cN]
 | (b, x) :: t => by
  show (if a = b then _ else _ :: cN a v t).map (·.1) = _
  by_cases h : a = b
  . subst h; simp
  . rw [if_neg h]
    simp only [List.map_cons, List.contains_cons]
    rw [tY a v t]
    have : (a == b) = false := by simpa using h
    rw [this, Bool.false_or]
    split <;> simp
theorem D0 (l : List af) : (apx l).map (·.1) = eI l := by
 have key : ∀ (l : List af) (m : List (Bs × D)), (l.foldl (fun m p => cN p.zone.apex (.bool true) m) m).map (·.1) = l.foldl (fun out p => if out.contains p.zone.apex = true then out else out ++ [p.zone.apex]) (m.map (·.1)) := fun l => by
  induction l with
  | nil => intro m; rfl
  | cons p t ih => intro m; simp only [List.foldl_cons]; rw [ih, tY]
 exact key l []
theorem Gl (l : List af) : (apx l).length = (eI l).length := by rw [<- D0, List.length_map]
def ko (w : bg) : Bool := (w.zones.take 21).all (fun p => ep p.zone && decide (p.zone.apex.length <= 100)) && (w.hosts.take 71).all (fun h => decide (h.name.length <= 100)) && decide ((w.zones.length : Int) <= 20) && decide ((w.hosts.length : Int) <= 70) && decide ((w.hints.length : Int) <= 20) && decide ((w.anchor.data.length : Int) <= 20)
theorem EJ {w : bg} (h : ko w = true) : l7 w /\ w.hosts.length <= 70 /\ w.zones.length <= 20 /\ w.hints.length <= 20 := by
 unfold ko at h
 simp only [Bool.and_eq_true, decide_eq_true_eq, List.all_eq_true] at h
 obtain ⟨⟨⟨⟨⟨h1, h2⟩, h3⟩, h4⟩, h5⟩, h6⟩ := h
 have : w.zones.take 21 = w.zones := List.take_of_length_le (by omega)
 rw [this] at h1
 exact ⟨⟨by omega, by omega, by omega, fun p hp => (h1 p hp).1⟩, by omega, by omega, by omega⟩
end NP
namespace Go.Proofs.YtnbnldnfkikakaaGreatDoor
open NQ Go NP Go.RowKit
theorem CM (l : List ja) (hl : l.length <= 100000) : NQ.Fn cx 56 [.slice 3 (l.map du)] (.d (.bool (iU l))) [] := by
 refine ao az mixed Tryz.func56 (by kernel_rfl) rfl (Nat.le_of_ble_eq_true rfl) ?_; conv => whnf
 rw [List.length_map]
 refine ab (fun h => ?_) (fun h => ?_) <;> (rw [h]; conv => whnf)
 . refine ae rfl ?_
   show AV.d (D.bool _) = AV.d (D.bool _)
   congr 2
   unfold iU
   simp at h
   simp; omega
 have hle : iU l = gJ [] l := by unfold iU; simp at h; simp; omega
 rw [hle]
 refine ⟨Nat, fun k => ⟨[(0, .d (.slice 3 (l.map du))), (3, .d (.int .i64 k))], []⟩, fun k => k <= l.length /\ gJ ((l.take k).map (·.addr)) (l.drop k) = gJ [] l, fun k => l.length - k,
  ⟨0, ⟨Nat.zero_le _, rfl⟩, ai.keep ⟨⟨rfl, rfl⟩, ⟨rfl, rfl⟩, trivial⟩ trivial⟩, fun k ⟨hk, hinv⟩ => ?_⟩
 conv => whnf
 refine ab (fun h1 => ?_) (fun h1 => ?_) <;> (rw [h1]; conv => whnf)
 . have hlt : k < l.length := by simpa using h1
   obtain ⟨x, hx⟩ : ∃ x, l[k]? = some x := ⟨_, List.getElem?_eq_getElem hlt⟩
   rw [tA hx] at hinv
   refine ⟨Int.natCast_nonneg k, du x, ax hx, ?_⟩
   conv => whnf
   (refine ⟨_, _, kU x.name, ?_⟩; conv => whnf)
   cases hv : ah x.name with
   | false =>
    conv => whnf
    refine ae rfl ?_
    rw [<- hinv, hv]; rfl
   | true =>
    conv => whnf
    (refine ⟨_, _, wK x.name hv, ?_⟩; conv => whnf)
    rw [hv, FZ hv] at hinv
    repeat' (first | (refine ab (fun h => ?_) (fun h => ?_) <;> (rw [h]; conv => whnf)) | fail)
    all_goals first
     | (refine ae rfl ?_; show AV.d (D.bool false) = AV.d (D.bool _); rw [<- hinv]; clear hinv hle; unfold dq; simp_all; done)
     | skip
    all_goals first
     | (refine ae rfl ?_; show AV.d (D.bool false) = AV.d (D.bool _); rw [<- hinv]; clear hinv hle; unfold dq; simp_all; omega)
     | skip
    refine ⟨Nat, fun j => ⟨[(0, .d (.slice 3 (l.map du))), (3, .d (.int .i64 k)), (4, .ptr 4 0), (6, .d (.int .i64 j))], [(4, .box ((du x).map .d))]⟩, fun j => j <= k /\ ((l.take j).map (·.addr)).contains x.addr = false, fun j => k - j,
     ⟨0, ⟨Nat.zero_le _, rfl⟩, ai.keep ⟨⟨rfl, rfl⟩, ⟨rfl, rfl⟩, ⟨rfl, rfl⟩, ⟨rfl, rfl⟩, trivial⟩ ⟨⟨rfl, rfl⟩, trivial⟩⟩, fun j ⟨hj, hno⟩ => ?_⟩
    conv => whnf
    refine ab (fun h2 => ?_) (fun h2 => ?_) <;> (rw [h2]; conv => whnf)
    . have hjk : j < k := by simpa using h2
      obtain ⟨y, hy⟩ : ∃ y, l[j]? = some y := ⟨_, List.getElem?_eq_getElem (by omega)⟩
      try (refine ⟨(by kernel_rfl : aH _ _ = true), ?_⟩; conv => whnf)
      refine ⟨Int.natCast_nonneg j, du y, ax hy, ?_⟩
      conv => whnf
      refine ab (fun h3 => ?_) (fun h3 => ?_) <;> (rw [h3]; conv => whnf)
      . refine ae rfl ?_
        show AV.d (D.bool false) = AV.d (D.bool _)
        have : ((l.take k).map (·.addr)).contains x.addr = true := by
         rw [List.contains_iff_mem, List.mem_map]
         exact ⟨y, List.mem_of_getElem? (i := j) (by rw [List.getElem?_take, if_pos hjk]; exact hy), by simpa using h3⟩
        rw [<- hinv, this]; simp
      . refine ⟨j + 1, ⟨hjk, ?_⟩, by (show k - (j + 1) < k - j; omega), ai.keep ⟨⟨rfl, rfl⟩, ⟨rfl, rfl⟩, ⟨rfl, rfl⟩, ⟨ak (by omega), rfl⟩, trivial⟩ ⟨⟨rfl, rfl⟩, trivial⟩⟩
        rw [bF hy, List.map_append]
        have h3' : (x.addr == y.addr) = false := by
         rw [<- Bool.not_eq_true] at h3 ⊢
         intro e; apply h3; simp at e ⊢; exact e.symm
        simp only [List.map_cons, List.map_nil]
        rw [Bool.eq_false_iff] at hno h3' ⊢
        simp only [ne_eq, List.contains_iff_mem, List.mem_append, List.mem_singleton, beq_iff_eq] at hno h3' ⊢
        rintro (e | e)
        . exact hno e
        . exact h3' e
    . obtain rfl : j = k := by simp at h2; omega
      refine ⟨j + 1, ⟨hlt, ?_⟩, by (show l.length - (j + 1) < l.length - j; omega), ai.keep ⟨⟨rfl, rfl⟩, ⟨ak (by omega), rfl⟩, trivial⟩ trivial⟩
      rw [bF hx, List.map_append, <- hinv, hno]
      clear hinv hle
      show _ = (_ && _ && _)
      unfold dq
      simp_all
      try omega
 . obtain rfl : k = l.length := by simp at h1; omega
   refine ae rfl ?_
   rw [<- hinv, List.drop_length]; rfl
theorem Di (s : gP) (hints : List Int) (hl : hints.length <= 100000) : NQ.Fn cx 57 [.agg (kB s), .slice 1 (hints.map b5)] (.d (.bool (kP s hints))) [] := by
 refine ao az mixed Tryz.func57 (by kernel_rfl) rfl (Nat.le_of_ble_eq_true rfl) ?_; conv => whnf
 refine ⟨Nat, fun k => ⟨[(1, .d (.slice 1 (hints.map b5))), (2, .ptr 2 0), (5, .d (.int .i64 k))], [(2, .box ((kB s).map .d))]⟩, fun k => k <= hints.length /\ (hints.take k).all dq = true, fun k => hints.length - k,
  ⟨0, ⟨Nat.zero_le _, rfl⟩, ai.keep ⟨⟨rfl, rfl⟩, ⟨rfl, rfl⟩, ⟨rfl, rfl⟩, trivial⟩ ⟨⟨rfl, rfl⟩, trivial⟩⟩, fun k ⟨hk, hall⟩ => ?_⟩
 conv => whnf
 refine ab (fun h1 => ?_) (fun h1 => ?_) <;> (rw [h1]; conv => whnf)
 . have hlt : k < hints.length := by simpa using h1
   obtain ⟨x, hx⟩ : ∃ x, hints[k]? = some x := ⟨_, List.getElem?_eq_getElem hlt⟩
   refine ⟨Int.natCast_nonneg k, b5 x, ax hx, ?_⟩
   conv => whnf
   have no : dq x = false -> kP s hints = false := fun hb => by
    have : hints.all dq = false := by
     rw [<- Bool.not_eq_true, List.all_eq_true]
     intro hh
     rw [hh x (List.mem_of_getElem? hx)] at hb; cases hb
    unfold kP; rw [this]; simp
   refine ab (fun h2 => ?_) (fun h2 => ?_) <;> (rw [h2]; conv => whnf)
   . refine ae rfl ?_
     rw [no (by unfold dq; simp at h2 ⊢; omega)]; rfl
   . refine ⟨Int.natCast_nonneg k, b5 x, ax hx, ?_⟩
     conv => whnf
     refine ab (fun h3 => ?_) (fun h3 => ?_) <;> (rw [h3]; conv => whnf)
     . refine ae rfl ?_
       rw [no (by unfold dq; simp at h2 h3 ⊢; omega)]; rfl
     . refine ⟨k + 1, ⟨hlt, ?_⟩, by (show hints.length - (k + 1) < hints.length - k; omega), ai.keep ⟨⟨rfl, rfl⟩, ⟨rfl, rfl⟩, ⟨ak (by omega), rfl⟩, trivial⟩ ⟨⟨rfl, rfl⟩, trivial⟩⟩
       rw [bF hx, List.all_append, hall]
       simp at h2 h3
       simp [dq]; omega
 . obtain rfl : k = hints.length := by simp at h1; omega
   rw [List.take_length] at hall
   (refine ⟨_, _, yp s, ?_⟩; conv => whnf)
   repeat' (first | (refine ab (fun h => ?_) (fun h => ?_) <;> (rw [h]; conv => whnf)) | fail)
   all_goals (refine ae rfl ?_; show AV.d (D.bool _) = AV.d (D.bool _); congr 2; (try simp only [List.length_map] at *); unfold kP; rw [hall]; simp only [*, if_true, if_false, Bool.false_eq_true, Bool.not_true, Bool.not_false, Bool.not_not, Bool.true_or, Bool.or_true, Bool.false_or, Bool.or_false, Bool.and_true, Bool.true_and, Bool.false_and, Bool.and_false])
theorem AE (l : List af) (hl : l.length <= 100000) : NQ.Fn cx 59 [.slice 3 (l.map aQ)] (.d (.slice 1 ((eI l).map aM))) [] := by
 refine ao az mixed Tryz.func59 (by kernel_rfl) rfl (Nat.le_of_ble_eq_true rfl) ?_; conv => whnf
 refine ⟨Nat, fun k => ⟨[(0, .d (.slice 3 (l.map aQ))), (3, .own 100), (4, .d (.int .i64 k))], [(100, .row 9 1 ((eI (l.take k)).map aM))]⟩, fun k => k <= l.length, fun k => l.length - k,
  ⟨0, Nat.zero_le _, (ai.qV 3 100 1 9 1 rfl rfl (by decide)).trans (ai.keep ⟨⟨rfl, rfl⟩, ⟨rfl, rfl⟩, ⟨rfl, rfl⟩, trivial⟩ ⟨⟨rfl, rfl⟩, trivial⟩)⟩, fun k hk => ?_⟩
 conv => whnf
 refine ab (fun h1 => ?_) (fun h1 => ?_) <;> (rw [h1]; conv => whnf)
 . have hlt : k < l.length := by simpa using h1
   obtain ⟨x, hx⟩ : ∃ x, l[k]? = some x := ⟨_, List.getElem?_eq_getElem hlt⟩
   have hal : (eI (l.take k)).length <= k := by have := AD (l.take k); rw [List.length_take] at this; omega
   generalize hA : eI (l.take k) = A at *
   refine ⟨Nat × Bool, fun j => ⟨[(0, .d (.slice 3 (l.map aQ))), (3, .own 100), (4, .d (.int .i64 k)), (5, .d (.bool j.2)), (6, .d (.int .i64 j.1))], [(100, .row 9 1 (A.map aM))]⟩, fun j => j.1 <= A.length /\ j.2 = (A.take j.1).contains x.zone.apex, fun j => A.length - j.1,
    ⟨(0, false), ⟨Nat.zero_le _, rfl⟩, ai.keep ⟨⟨rfl, rfl⟩, ⟨rfl, rfl⟩, ⟨rfl, rfl⟩, ⟨rfl, rfl⟩, ⟨rfl, rfl⟩, trivial⟩ ⟨⟨by rw [<- hA]; rfl, rfl⟩, trivial⟩⟩, fun ⟨j, f⟩ ⟨hj, hf⟩ => ?_⟩
   dsimp only at hj hf ⊢
   conv => whnf
   refine ab (fun h2 => ?_) (fun h2 => ?_) <;> (rw [h2]; conv => whnf)
   . have hjl : j < A.length := by simpa using h2
     obtain ⟨y, hy⟩ : ∃ y, A[j]? = some y := ⟨_, List.getElem?_eq_getElem hjl⟩
     (refine ⟨(by kernel_rfl : aH _ _ = true), ?_⟩; conv => whnf)
     refine ab (fun h3 => ?_) (fun h3 => ?_) <;> (rw [h3]; conv => whnf)
     . refine ⟨(j + 1, true), ⟨hjl, ?_⟩, by (show A.length - (j + 1) < A.length - j; omega), ai.keep ⟨⟨rfl, rfl⟩, ⟨rfl, rfl⟩, ⟨rfl, rfl⟩, ⟨rfl, rfl⟩, ⟨ak (by omega), rfl⟩, trivial⟩ ⟨⟨rfl, rfl⟩, trivial⟩⟩
       dsimp only
       rw [bF hy, List.contains_append, <- hf, h3]; rfl
     . refine ⟨Int.natCast_nonneg j, by (show j < (A.map aM).length; rw [List.length_map]; exact hjl), ?_⟩
       conv => whnf
       refine ⟨aM y, ax hy, ?_⟩
       conv => whnf
       refine ⟨Int.natCast_nonneg k, aQ x, ax hx, ?_⟩
       conv => whnf
       refine ⟨(j + 1, y == x.zone.apex), ⟨hjl, ?_⟩, by (show A.length - (j + 1) < A.length - j; omega), ai.keep ⟨⟨rfl, rfl⟩, ⟨rfl, rfl⟩, ⟨rfl, rfl⟩, ⟨rfl, rfl⟩, ⟨ak (by omega), rfl⟩, trivial⟩ ⟨⟨rfl, rfl⟩, trivial⟩⟩
       dsimp only
       rw [bF hy, List.contains_append, <- hf, h3, Bool.false_or]
       simp only [List.contains_cons, List.contains_nil, Bool.or_false]
       exact Bool.eq_iff_iff.2 ⟨fun h => by simp at h ⊢; exact h.symm, fun h => by simp at h ⊢; exact h.symm⟩
   . obtain rfl : j = A.length := by simp at h2; omega
     rw [List.take_length] at hf
     refine ab (fun h3 => ?_) (fun h3 => ?_) <;> (rw [h3]; conv => whnf)
     . have hc : A.contains x.zone.apex = false := by rw [<- hf]; simpa using h3
       refine ⟨Int.natCast_nonneg k, aQ x, ax hx, ?_⟩
       conv => whnf
       refine ⟨by (show (A.map aM).length + 1 <= _); simp; omega, by (show ((A.map aM).length + 1) * 16 <= _); simp; omega, ?_⟩
       conv => whnf
       refine ⟨k + 1, hlt, by (show l.length - (k + 1) < l.length - k; omega), ai.keep ⟨⟨rfl, rfl⟩, ⟨rfl, rfl⟩, ⟨ak (by omega), rfl⟩, trivial⟩ ⟨⟨?_, rfl⟩, trivial⟩⟩
       rw [bF hx, rj, hA, if_neg (by rw [hc]; simp), List.map_append]; rfl
     . have hc : A.contains x.zone.apex = true := by rw [<- hf]; simpa using h3
       refine ⟨k + 1, hlt, by (show l.length - (k + 1) < l.length - k; omega), ai.keep ⟨⟨rfl, rfl⟩, ⟨rfl, rfl⟩, ⟨ak (by omega), rfl⟩, trivial⟩ ⟨⟨?_, rfl⟩, trivial⟩⟩
       rw [bF hx, rj, hA, if_pos hc]; rfl
 . obtain rfl : k = l.length := by simp at h1; omega
   refine ae rfl ?_
   rw [List.take_length]; rfl
end Go.Proofs.YtnbnldnfkikakaaGreatDoor

set_option maxRecDepth 100000
namespace Go.Proofs.YtnbnldnfkikakaaGreatDoor
open NQ Go NP Go.RowKit
set_option maxHeartbeats 2000000 in
theorem DL (w : bg) (h1 : w.hosts.length <= 100000) (h2 : w.zones.length <= 100000) (h3 : w.hints.length <= 100000) (h4 : ∀ p ∈ w.zones, p.zone.sets.length <= 100000) : NQ.Fn cx 20 [.agg (bz w)] (.d (.bool (bt w))) [] := by
 refine ao az mixed Tryz.func20 (by kernel_rfl) rfl (Nat.le_of_ble_eq_true rfl) ?_; conv => whnf
 (refine ⟨_, _, CM w.hosts h1, ?_⟩; conv => whnf)
 cases e1 : iU w.hosts with
 | false =>
  conv => whnf
  refine ae rfl ?_
  have : bt w = false := by unfold bt; rw [e1]; rfl
  rw [this]; rfl
 | true =>
 conv => whnf
 refine ab (fun g0 => ?_) (fun g0 => ?_) <;> (rw [g0]; conv => whnf)
 . refine ae rfl ?_
   have : bt w = false := by
    have e3 : decide ((w.zones.length : Int) <= 4000) = false := by
     have := of_decide_eq_true g0
     rw [List.length_map] at this
     exact decide_eq_false (by omega)
    unfold bt ix; rw [e3]; simp
   rw [this]; rfl
 (refine ⟨_, _, Di w.anchor w.hints h3, ?_⟩; conv => whnf)
 cases e2 : kP w.anchor w.hints with
 | false =>
  conv => whnf
  refine ae rfl ?_
  have : bt w = false := by unfold bt; rw [e2]; simp
  rw [this]; rfl
 | true =>
 conv => whnf
 have hyes : bt w = (cP w.hosts.length [] w.zones && decide (((apx w.zones).length : Int) <= 500)) := by
  have e3 : (w.zones.length : Int) <= 4000 := by
   have := of_decide_eq_false g0
   rw [List.length_map] at this
   omega
  unfold bt ix
  rw [e1, e2, decide_eq_true e3]; simp
 refine ⟨Nat, fun k => ⟨[(1, .ptr 1 0), (3, .d (.int .i64 k))], [(1, .box ((bz w).map .d))]⟩, fun k => k <= w.zones.length /\ cP w.hosts.length (w.zones.take k) (w.zones.drop k) = cP w.hosts.length [] w.zones, fun k => w.zones.length - k,
  ⟨0, ⟨Nat.zero_le _, rfl⟩, ai.keep ⟨⟨rfl, rfl⟩, ⟨rfl, rfl⟩, trivial⟩ ⟨⟨rfl, rfl⟩, trivial⟩⟩, fun k ⟨hk, hinv⟩ => ?_⟩
 conv => whnf
 refine ab (fun g1 => ?_) (fun g1 => ?_) <;> (rw [g1]; conv => whnf)
 . have hlt : k < w.zones.length := by simpa using g1
   obtain ⟨x, hx⟩ : ∃ x, w.zones[k]? = some x := ⟨_, List.getElem?_eq_getElem hlt⟩
   rw [rq hx] at hinv
   refine ⟨Int.natCast_nonneg k, aQ x, ax hx, ?_⟩
   conv => whnf
   (refine ⟨_, _, Dm x.zone (h4 x (List.mem_of_getElem? hx)), ?_⟩; conv => whnf)
   have bad : (decide (x.host < 0) || decide (x.host >= (w.hosts.length : Int)) || (w.zones.take k).any (cr x) || !aO x.zone) = true -> bt w = false := fun hb => by
    rw [hyes, <- hinv, hb]; rfl
   refine ab (fun g2 => ?_) (fun g2 => ?_) <;> (rw [g2]; conv => whnf)
   . refine ae rfl ?_
     rw [bad (by simp_all)]; rfl
   refine ab (fun g3 => ?_) (fun g3 => ?_) <;> (rw [g3]; conv => whnf)
   . refine ae rfl ?_
     rw [bad (by simp_all)]; rfl
   refine ab (fun g4 => ?_) (fun g4 => ?_) <;> (rw [g4]; conv => whnf)
   . refine ae rfl ?_
     rw [bad (by (try simp only [List.length_map] at *); simp_all)]; rfl
   refine ⟨Nat, fun j => ⟨[(1, .ptr 1 0), (3, .d (.int .i64 k)), (4, .ptr 4 0), (6, .d (.int .i64 j))], [(1, .box ((bz w).map .d)), (4, .box ((aQ x).map .d))]⟩, fun j => j <= k /\ (w.zones.take j).any (cr x) = false, fun j => k - j,
    ⟨0, ⟨Nat.zero_le _, rfl⟩, ai.keep ⟨⟨rfl, rfl⟩, ⟨rfl, rfl⟩, ⟨rfl, rfl⟩, ⟨rfl, rfl⟩, trivial⟩ ⟨⟨rfl, rfl⟩, ⟨rfl, rfl⟩, trivial⟩⟩, fun j ⟨hj, hno⟩ => ?_⟩
   conv => whnf
   refine ab (fun g5 => ?_) (fun g5 => ?_) <;> (rw [g5]; conv => whnf)
   . have hjk : j < k := by simpa using g5
     obtain ⟨y, hy⟩ : ∃ y, w.zones[j]? = some y := ⟨_, List.getElem?_eq_getElem (by omega)⟩
     (refine ⟨(by kernel_rfl : aH _ _ = true), ?_⟩; conv => whnf)
     refine ⟨Int.natCast_nonneg j, aQ y, ax hy, ?_⟩
     conv => whnf
     have next : cr x y = false -> j + 1 <= k /\ (w.zones.take (j + 1)).any (cr x) = false := fun hs => ⟨hjk, by rw [bF hy, List.any_append, hno]; simp [hs]⟩
     refine ab (fun g6 => ?_) (fun g6 => ?_) <;> (rw [g6]; conv => whnf)
     . refine ⟨Int.natCast_nonneg j, aQ y, ax hy, ?_⟩
       conv => whnf
       refine ab (fun g7 => ?_) (fun g7 => ?_) <;> (rw [g7]; conv => whnf)
       . refine ae rfl ?_
         have : (w.zones.take k).any (cr x) = true := by
          rw [List.any_eq_true]
          refine ⟨y, List.mem_of_getElem? (i := j) (by rw [List.getElem?_take, if_pos hjk]; exact hy), ?_⟩
          simp at g6 g7
          simp [cr, g6, g7]
         rw [bad (by rw [this]; simp)]; rfl
       . exact ⟨j + 1, next (by unfold cr; simp at g7; rw [Bool.and_eq_false_iff]; right; simp; exact fun e => g7 e.symm), by (show k - (j + 1) < k - j; omega), ai.keep ⟨⟨rfl, rfl⟩, ⟨rfl, rfl⟩, ⟨rfl, rfl⟩, ⟨ak (by omega), rfl⟩, trivial⟩ ⟨⟨rfl, rfl⟩, ⟨rfl, rfl⟩, trivial⟩⟩
     . exact ⟨j + 1, next (by unfold cr; simp at g6; rw [Bool.and_eq_false_iff]; left; simp; exact fun e => g6 e.symm), by (show k - (j + 1) < k - j; omega), ai.keep ⟨⟨rfl, rfl⟩, ⟨rfl, rfl⟩, ⟨rfl, rfl⟩, ⟨ak (by omega), rfl⟩, trivial⟩ ⟨⟨rfl, rfl⟩, ⟨rfl, rfl⟩, trivial⟩⟩
   . obtain rfl : j = k := by simp at g5; omega
     refine ⟨j + 1, ⟨hlt, ?_⟩, by (show w.zones.length - (j + 1) < w.zones.length - j; omega), ai.keep ⟨⟨rfl, rfl⟩, ⟨ak (by omega), rfl⟩, trivial⟩ ⟨⟨rfl, rfl⟩, trivial⟩⟩
     rw [bF hx, <- hinv]
     clear hinv hyes bad
     have e1 : decide (x.host < 0) = false := g3
     have e2 : decide (x.host >= (w.hosts.length : Int)) = false := by (try simp only [List.length_map] at g4); exact g4
     have e3 : (!aO x.zone) = false := g2
     rw [e1, e2, e3, hno]; simp
 . obtain rfl : k = w.zones.length := by simp at g1; omega
   (refine ⟨_, _, AE w.zones h2, ?_⟩; conv => whnf)
   refine ae rfl ?_
   show AV.d (D.bool _) = AV.d (D.bool _)
   congr 2
   rw [List.drop_length] at hinv
   rw [hyes, <- hinv, Gl]
   simp [cP]
def A2 : Nat -> List Nat := fun | 7 => [55555] | 12 => [55555] | _ => []
theorem vf (w : bg) (hz : (w.zones.take 21).all (fun p => ep p.zone && decide (p.zone.apex.length <= 100)) = true) (hh : (w.hosts.take 71).all (fun h => decide (h.name.length <= 100)) = true) (st : St) (hs : ai cx st ⟨[(1, .ptr 1 0)], [(1, .box ((bz w).map .d))]⟩) :
 vc cx Tryz.f11.ntmps A2 (BR 3 ((Tryz.f11.body).getD .skip)) (fnQ cx Tryz.f11.results.toList (.d (.bool (ko w))) []) st := by
 conv => whnf
 refine ⟨_, hs, ?_⟩
 conv => whnf
 have e : ko w = (decide ((w.zones.length : Int) <= 20) && decide ((w.hosts.length : Int) <= 70) && decide ((w.hints.length : Int) <= 20) && decide ((w.anchor.data.length : Int) <= 20)) := by
  unfold ko; rw [hz, hh]; rfl
 repeat' (first | (refine ab (fun h => ?_) (fun h => ?_) <;> (rw [h]; conv => whnf)) | fail)
 all_goals (refine ae rfl ?_; show AV.d (D.bool _) = AV.d (D.bool _); congr 2; (try simp only [List.length_map] at *); rw [e]; simp only [*, if_true, if_false, Bool.false_eq_true, Bool.not_true, Bool.not_false, Bool.not_not, Bool.true_or, Bool.or_true, Bool.false_or, Bool.or_false, Bool.and_true, Bool.true_and, Bool.false_and, Bool.and_false])
theorem xq (w : bg) (hz : (w.zones.take 21).all (fun p => ep p.zone && decide (p.zone.apex.length <= 100)) = true) (st : St) (hs : ai cx st ⟨[(1, .ptr 1 0)], [(1, .box ((bz w).map .d))]⟩) :
 vc cx Tryz.f11.ntmps A2 (BR 2 ((Tryz.f11.body).getD .skip)) (fnQ cx Tryz.f11.results.toList (.d (.bool (ko w))) []) st := by
 conv => whnf
 refine ⟨_, hs, ?_⟩
 conv => whnf
 refine ⟨Nat, fun k => ⟨[(1, .ptr 1 0), (5, .d (.int .i64 k))], [(1, .box ((bz w).map .d))]⟩, fun k => k <= w.hosts.length /\ k <= 71 /\ (w.hosts.take k).all (fun h => decide (h.name.length <= 100)) = true, fun k => w.hosts.length - k,
  ⟨0, ⟨Nat.zero_le _, Nat.zero_le _, rfl⟩, ai.keep ⟨⟨rfl, rfl⟩, ⟨rfl, rfl⟩, trivial⟩ ⟨⟨rfl, rfl⟩, trivial⟩⟩, fun k ⟨hk, hk2, hall⟩ => ?_⟩
 conv => whnf
 refine ab (fun g1 => ?_) (fun g1 => ?_) <;> (rw [g1]; conv => whnf)
 . have hlt : k < w.hosts.length := by simpa using g1
   obtain ⟨x, hx⟩ : ∃ x, w.hosts[k]? = some x := ⟨_, List.getElem?_eq_getElem hlt⟩
   refine ab (fun g2 => ?_) (fun g2 => ?_) <;> (rw [g2]; conv => whnf)
   . have hk3 : k < 71 := by simp at g2; omega
     refine ⟨Int.natCast_nonneg k, du x, ax hx, ?_⟩
     conv => whnf
     refine ab (fun g4 => ?_) (fun g4 => ?_) <;> (rw [g4]; conv => whnf)
     . refine ae rfl ?_
       have : (w.hosts.take 71).all (fun h => decide (h.name.length <= 100)) = false := by
        rw [<- Bool.not_eq_true, List.all_eq_true]
        intro h
        have := h x (List.mem_of_getElem? (i := k) (by rw [List.getElem?_take, if_pos hk3]; exact hx))
        simp at g4 this; omega
       have : ko w = false := by unfold ko; rw [this]; simp
       rw [this]; rfl
     . refine ⟨k + 1, ⟨hlt, by omega, ?_⟩, by (show w.hosts.length - (k + 1) < w.hosts.length - k; omega), ai.keep ⟨⟨rfl, rfl⟩, ⟨ak (by omega), rfl⟩, trivial⟩ ⟨⟨rfl, rfl⟩, trivial⟩⟩
       rw [bF hx, List.all_append, hall]
       simp at g4
       simp; omega
   . have : k = 71 := by simp at g2; omega
     subst this
     exact vf w hz hall _ (ai.keep ⟨⟨rfl, rfl⟩, trivial⟩ ⟨⟨rfl, rfl⟩, trivial⟩)
 . obtain rfl : k = w.hosts.length := by simp at g1; omega
   exact vf w hz (by rw [List.take_length] at hall; rw [List.take_of_length_le hk2]; exact hall) _ (ai.keep ⟨⟨rfl, rfl⟩, trivial⟩ ⟨⟨rfl, rfl⟩, trivial⟩)
theorem GF (w : bg) : NQ.Fn cx 11 [.agg (bz w)] (.d (.bool (ko w))) [] := by
 refine de A2 az mixed Tryz.func11 (by kernel_rfl) rfl (Nat.le_of_ble_eq_true rfl) ?_
 conv => whnf
 refine ⟨Nat, fun k => ⟨[(1, .ptr 1 0), (3, .d (.int .i64 k))], [(1, .box ((bz w).map .d))]⟩, fun k => k <= w.zones.length /\ k <= 21 /\ (w.zones.take k).all (fun p => ep p.zone && decide (p.zone.apex.length <= 100)) = true, fun k => w.zones.length - k,
  ⟨0, ⟨Nat.zero_le _, Nat.zero_le _, rfl⟩, ai.keep ⟨⟨rfl, rfl⟩, ⟨rfl, rfl⟩, trivial⟩ ⟨⟨rfl, rfl⟩, trivial⟩⟩, fun k ⟨hk, hk2, hall⟩ => ?_⟩
 conv => whnf
 have no : ∀ p, w.zones[k]? = some p -> k < 21 -> (ep p.zone && decide (p.zone.apex.length <= 100)) = false -> ko w = false := fun p hp hk hb => by
  have : (w.zones.take 21).all (fun p => ep p.zone && decide (p.zone.apex.length <= 100)) = false := by
   rw [<- Bool.not_eq_true, List.all_eq_true]
   intro h
   rw [h p (List.mem_of_getElem? (i := k) (by rw [List.getElem?_take, if_pos hk]; exact hp))] at hb; cases hb
  unfold ko; rw [this]; simp
 refine ab (fun g1 => ?_) (fun g1 => ?_) <;> (rw [g1]; conv => whnf)
 . have hlt : k < w.zones.length := by simpa using g1
   obtain ⟨x, hx⟩ : ∃ x, w.zones[k]? = some x := ⟨_, List.getElem?_eq_getElem hlt⟩
   refine ab (fun g2 => ?_) (fun g2 => ?_) <;> (rw [g2]; conv => whnf)
   . have hk3 : k < 21 := by simp at g2; omega
     refine ⟨Int.natCast_nonneg k, aQ x, ax hx, ?_⟩
     conv => whnf
     (refine ⟨_, _, H7 x.zone, ?_⟩; conv => whnf)
     refine ab (fun g3 => ?_) (fun g3 => ?_) <;> (rw [g3]; conv => whnf)
     . refine ae rfl ?_
       rw [no x hx hk3 (by simp_all)]; rfl
     refine ⟨Int.natCast_nonneg k, aQ x, ax hx, ?_⟩
     conv => whnf
     refine ab (fun g4 => ?_) (fun g4 => ?_) <;> (rw [g4]; conv => whnf)
     . refine ae rfl ?_
       rw [no x hx hk3 (by simp at g4; simp; omega)]; rfl
     . refine ⟨k + 1, ⟨hlt, by omega, ?_⟩, by (show w.zones.length - (k + 1) < w.zones.length - k; omega), ai.keep ⟨⟨rfl, rfl⟩, ⟨ak (by omega), rfl⟩, trivial⟩ ⟨⟨rfl, rfl⟩, trivial⟩⟩
       rw [bF hx, List.all_append, hall]
       simp at g3 g4
       simp [g3]; omega
   . have : k = 21 := by simp at g2; omega
     subst this
     exact xq w hall _ (ai.keep ⟨⟨rfl, rfl⟩, trivial⟩ ⟨⟨rfl, rfl⟩, trivial⟩)
 . obtain rfl : k = w.zones.length := by simp at g1; omega
   exact xq w (by rw [List.take_length] at hall; rw [List.take_of_length_le hk2]; exact hall) _ (ai.keep ⟨⟨rfl, rfl⟩, trivial⟩ ⟨⟨rfl, rfl⟩, trivial⟩)
end Go.Proofs.YtnbnldnfkikakaaGreatDoor

set_option maxRecDepth 100000
namespace NP
open NQ Go
theorem tU {zs : List af} {K : Int} {q : ay} {x : Nat × af} (hK : 0 <= K) (h : mJ zs K q = some x) : zs[x.1]? = some x.2 /\ x.2 ∈ zs /\ x.2.host = K /\ ar q.name x.2.zone.apex = true := by
 have key : ∀ nt, jc zs K q.name nt = some x -> zs[x.1]? = some x.2 /\ x.2 ∈ zs /\ x.2.host = K /\ ar q.name x.2.zone.apex = true := fun nt hd => by
  obtain ⟨h1, h2, _⟩ := xl hd
  obtain ⟨k1, _, k3⟩ := (iy hK).1 h2
  exact ⟨Ey _ _ _ _ x hd, h1, k1, k3⟩
 unfold mJ at h
 split at h
 . rename_i y hy
   cases h
   split at hy
   . exact key _ hy
   . cases hy
 . exact key _ h
theorem DZ {z : aq} {q : ay} (u : Use z q) : (bn z q).2 = 0 := by rw [u.ans]
theorem Cj {w : bg} {q : ay} (hval : bt w = true) (hF : l7 w) (hq : bc q = true) {K : Int} (hK : 0 <= K) :
 (match lO q (c9 gR (bM w.zones K q)) with | none => ((⟨7, [], []⟩ : Ans), (0 : Int)) | some z => bn z q) = (qp w.zones K q, 0) := by
 have hg := mM hval
 have hA : wx w.zones := ⟨fun p hp => (aW (hg p hp).1).apex, zD hval⟩
 rw [BA hA hK (BB hq)]
 unfold qp
 cases h : mJ w.zones K q with
 | none => rfl
 | some x =>
  obtain ⟨h1, h2, h3, h4⟩ := tU hK h
  have u : Use x.2.zone q := ⟨hF.few _ h2, (hg _ h2).1, hq, h4⟩
  exact Prod.ext rfl (DZ u)
end NP
namespace Go.Proofs.YtnbnldnfkikakaaGreatDoor
open NQ Go NP Go.RowKit
end Go.Proofs.YtnbnldnfkikakaaGreatDoor

set_option maxRecDepth 100000
namespace NP
open NQ Go
theorem zj {p q : af} (hp : aO p.zone = true) (hq : aO q.zone = true) : eB p q = (decide (gp p.zone > gp q.zone) || (decide (gp p.zone = gp q.zone) && decide (p.host < q.host))) := by
 unfold eB ee; rw [hp, hq]; rfl
theorem Iv (zs : List af) (q : ay) (f : Nat) (a : Bs) : iK zs (eE zs) q (f + 1) a = match oD zs a with
 | none => (fj, false)
 | some x => if ((bn x.2.zone q).1.kind != 4) = true then ((bn x.2.zone q).1, true) else iK zs (eE zs) q f (bn x.2.zone q).1.cut := by
 rw [iK, DD]
 cases h : oD zs a with
 | none => rfl
 | some x =>
  simp only [Option.map_some]
  rw [Em zs a x h]
end NP
namespace Go.Proofs.YtnbnldnfkikakaaGreatDoor
open NQ Go NP Go.RowKit
theorem Ja (zs : List af) (a : Bs) (hz : ∀ p ∈ zs, aO p.zone = true) (hl : zs.length <= 100000) : NQ.Fn cx 29 [.slice 3 (zs.map aQ), .str a] (.d (.int .i64 (Io (oD zs a)))) [] := by
 refine ao az mixed Tryz.func29 (by kernel_rfl) rfl (Nat.le_of_ble_eq_true rfl) ?_; conv => whnf
 refine ⟨Nat × Option (Nat × af), fun x => ⟨[(0, .d (.slice 3 (zs.map aQ))), (1, .d (.str a)), (5, .d (.int .i64 (Io x.2))), (6, .d (.int .i64 x.1))], []⟩,
  fun x => x.1 <= zs.length /\ iR zs x.2 /\ eS (fun p => p.zone.apex == a) eB x.1 (zs.drop x.1) x.2 = oD zs a, fun x => zs.length - x.1,
  ⟨(0, none), ⟨Nat.zero_le _, (fun x hx => by cases hx), rfl⟩, ai.keep ⟨⟨rfl, rfl⟩, ⟨rfl, rfl⟩, ⟨rfl, rfl⟩, ⟨rfl, rfl⟩, trivial⟩ trivial⟩, fun ⟨k, b⟩ ⟨hk, hb, hinv⟩ => ?_⟩
 dsimp only at hk hb hinv ⊢
 conv => whnf
 refine ab (fun h1 => ?_) (fun h1 => ?_) <;> (rw [h1]; conv => whnf)
 . have hlt : k < zs.length := by simpa using h1
   obtain ⟨p, hp⟩ : ∃ p, zs[k]? = some p := ⟨_, List.getElem?_eq_getElem hlt⟩
   have hpv := hz p (List.mem_of_getElem? hp)
   rw [Cl hp] at hinv
   have next : ∀ b', b' = cj (fun p => p.zone.apex == a) eB k p b -> (k + 1 <= zs.length /\ iR zs b' /\ eS (fun p => p.zone.apex == a) eB (k + 1) (zs.drop (k + 1)) b' = oD zs a) := fun b' e => by
    rw [e]; exact ⟨hlt, hb.step hp, hinv⟩
   refine ⟨Int.natCast_nonneg k, aQ p, ax hp, ?_⟩
   conv => whnf
   refine ab (fun h2 => ?_) (fun h2 => ?_) <;> (rw [h2]; conv => whnf)
   . exact ⟨(k + 1, b), next _ (by unfold cj; rw [if_neg (by simpa using h2)]), by (show zs.length - (k + 1) < zs.length - k; omega), ai.keep ⟨⟨rfl, rfl⟩, ⟨rfl, rfl⟩, ⟨rfl, rfl⟩, ⟨ak (by omega), rfl⟩, trivial⟩ trivial⟩
   have ha : (p.zone.apex == a) = true := by simpa using h2
   cases b with
   | none =>
    conv => whnf
    exact ⟨(k + 1, some (k, p)), next _ (by unfold cj; rw [if_pos ha]), by (show zs.length - (k + 1) < zs.length - k; omega), ai.keep ⟨⟨rfl, rfl⟩, ⟨rfl, rfl⟩, ⟨rfl, rfl⟩, ⟨ak (by omega), rfl⟩, trivial⟩ trivial⟩
   | some x =>
    have hx := hb x rfl
    have hxv := hz x.2 (List.mem_of_getElem? hx)
    have hnew := zj hpv hxv
    conv => whnf
    refine ⟨Int.natCast_nonneg k, aQ p, ax hp, ?_⟩
    conv => whnf
    (refine ⟨_, _, rR p.zone hpv, ?_⟩; conv => whnf)
    refine ⟨Int.natCast_nonneg x.1, aQ x.2, ax hx, ?_⟩
    conv => whnf
    (refine ⟨_, _, rR x.2.zone hxv, ?_⟩; conv => whnf)
    (refine ⟨(by kernel_rfl : aH _ _ = true), ?_⟩; conv => whnf)
    repeat' (first
     | (refine ab (fun h => ?_) (fun h => ?_) <;> (rw [h]; conv => whnf))
     | (refine ⟨Int.natCast_nonneg k, aQ p, ax hp, ?_⟩; conv => whnf)
     | (refine ⟨Int.natCast_nonneg x.1, aQ x.2, ax hx, ?_⟩; conv => whnf)
     | fail)
    all_goals first
     | (refine ⟨(k + 1, some (k, p)), next _ (by unfold cj; rw [if_pos ha]; dsimp only; rw [if_pos (by rw [hnew]; simp_all; done)]), by (show zs.length - (k + 1) < zs.length - k; omega), ai.keep ⟨⟨rfl, rfl⟩, ⟨rfl, rfl⟩, ⟨rfl, rfl⟩, ⟨ak (by omega), rfl⟩, trivial⟩ trivial⟩; done)
     | (refine ⟨(k + 1, some x), next _ (by unfold cj; rw [if_pos ha]; dsimp only; rw [if_neg (by rw [hnew]; simp_all; done)]), by (show zs.length - (k + 1) < zs.length - k; omega), ai.keep ⟨⟨rfl, rfl⟩, ⟨rfl, rfl⟩, ⟨rfl, rfl⟩, ⟨ak (by omega), rfl⟩, trivial⟩ trivial⟩; done)
     | (refine ⟨(k + 1, some x), next _ (by unfold cj; rw [if_pos ha]; dsimp only; rw [if_neg (by rw [hnew]; simp_all; omega)]), by (show zs.length - (k + 1) < zs.length - k; omega), ai.keep ⟨⟨rfl, rfl⟩, ⟨rfl, rfl⟩, ⟨rfl, rfl⟩, ⟨ak (by omega), rfl⟩, trivial⟩ trivial⟩; done)
 . obtain rfl : k = zs.length := by simp at h1; omega
   refine ae rfl ?_
   rw [<- hinv, List.drop_length]; rfl
end Go.Proofs.YtnbnldnfkikakaaGreatDoor

set_option maxRecDepth 100000
namespace Go.Proofs.YtnbnldnfkikakaaGreatDoor
open NQ Go NP Go.RowKit
def oS (i : Nat) : Code -> Option (Array Oper)
 | .region id ops _ => (match Nat.beq id i with | true => some ops | false => none)
 | .seq a b => (match oS i a with | some x => some x | none => oS i b)
 | .cond _ a b => (match oS i a with | some x => some x | none => oS i b)
 | .block _ b => oS i b
 | .loop b => oS i b
 | .rangeFunc _ _ _ b => none
 | _ => none
def D3 (q : ay) (l : List aq) : St := ⟨[(5, .d (.ptr (bE q))), (6, .ptr 100006 0), (9, .ptr 100009 0)], [(100006, .box [.d (.int .i64 0), .nil 5, .d (.str [])]), (100009, .box [.own 200]), (200, .row 47 2 (l.map aL))]⟩
theorem D4 (q : ay) (l l' : List aq) (ops : Array Oper) (ho : oS 12 ((Tryz.f12.body).getD .skip) = some ops) (Q : St -> Prop) (h : FnR si 41 false 47 2 (l.map aL) false [.fn 42 [] []] (l'.map aL)) (hk : ∀ st, ai si st (D3 q l') -> Q st) :
 mE si Tryz.f12.ntmps [55555] ops false Q (D3 q l) := by
 conv at ho => lhs; whnf
 cases ho
 conv => whnf
 exact ⟨_, h, hk _ (ai.keep ⟨⟨rfl, rfl⟩, ⟨rfl, rfl⟩, ⟨rfl, rfl⟩, trivial⟩ ⟨⟨rfl, rfl⟩, ⟨rfl, rfl⟩, ⟨rfl, rfl⟩, trivial⟩)⟩
set_option maxHeartbeats 1000000 in
theorem wT (w : bg) (a : Int) (q : ay) (hF : l7 w) : NQ.Fn cx 12 [.agg (bz w), .int .i64 a, .agg (bE q)] (.tuple [.agg ((eh (jM w a q).1).map .d), .d (.int .i64 (jM w a q).2)]) [] := by
 show NQ.Fn si _ _ _ _
 refine vi (fun | 3 => [4] | 7 => [5, 8] | 12 => [55555] | 13 => [55555] | _ => []) Jl G5 Tryz.func12 (by kernel_rfl) rfl (Nat.le_of_ble_eq_true rfl) ?_
 conv => whnf
 (refine ⟨_, _, lu w (by have := hF.hosts; omega) (by have := hF.zones; omega) (by have := hF.hints; omega), ?_⟩; conv => whnf)
 have bad : (bt w && bc q) = false -> jM w a q = (fj, 1) := fun h => by unfold jM; rw [if_pos h]
 repeat' (first | (refine ⟨_, _, vR q, ?_⟩; conv => whnf) | (refine ab (fun h => ?_) (fun h => ?_) <;> (rw [h]; conv => whnf)) | fail)
 . refine ae rfl ?_
   rw [bad (by simp_all)]; rfl
 . refine ae rfl ?_
   rw [bad (by simp_all)]; rfl
 have hval : bt w = true := by simpa using ‹(!bt w) = false›
 have hq : bc q = true := by simpa using ‹(!bc q) = false›
 have hask : jM w a q = if lL w.hosts a < 0 then (fj, 4) else match lO q (c9 gR (bM w.zones (lL w.hosts a) q)) with
  | none => (⟨7, [], []⟩, 0)
  | some z => bn z q := by unfold jM; exact if_neg (by rw [hval, hq]; simp)
 (refine ⟨_, _, A9 w.hosts (fun h => h.addr == a) (.ptr [.int .i64 a]) (by have := hF.hosts; omega) (fun h _ => Gn h a), ?_⟩; conv => whnf)
 refine ab (fun h1 => ?_) (fun h1 => ?_) <;> (rw [h1]; conv => whnf)
 . have h1' : lL w.hosts a < 0 := of_decide_eq_true h1
   refine ae rfl ?_
   rw [hask, if_pos h1']; rfl
 rw [if_neg (of_decide_eq_false h1 : ¬ lL w.hosts a < 0)] at hask
 (refine ⟨_, _, u7 w _ _, ?_⟩; conv => whnf)
 generalize hK : lL w.hosts a = K at *
 have hzl : (bM w.zones K q).length <= 1000 := by
  unfold bM
  rw [List.length_map]
  have := List.length_filter_le (jD K q) w.zones
  have := hF.zones
  omega
 refine ⟨91, _, _, [(5, .d (.ptr (bE q))), (6, .ptr 100006 0), (9, .ptr 100009 0), (31, .d (.fn 91 [] [.ptr (bz w), .ptr [.fn 39 [] [.ptr [.int .i64 K], .ptr (bE q)]]]))],
  fun k => [(100006, .box [.d (.int .i64 0), .nil 5, .d (.str [])]), (100009, .box [.own 200]), (200, .row 47 2 (((bM w.zones K q).take k).map aL))], [100006, 100009],
  (ai.zero (ai.tN 9 0 200 2 [.nil 2] 47 2 (by kernel_rfl) rfl (by kernel_rfl) (by decide))).trans ((kH.ren [6, 9] (by kernel_rfl)).trans (ai.zero (ai.keep ⟨⟨(by kernel_rfl), (by kernel_rfl)⟩, ⟨(by kernel_rfl), (by kernel_rfl)⟩, ⟨(by kernel_rfl), (by kernel_rfl)⟩, ⟨(by kernel_rfl), (by kernel_rfl)⟩, trivial⟩ ⟨⟨(by kernel_rfl), (by kernel_rfl)⟩, ⟨(by kernel_rfl), (by kernel_rfl)⟩, ⟨(by kernel_rfl), (by kernel_rfl)⟩, trivial⟩))),
  ⟨rfl, xc w 39 (.ptr [.int .i64 K]) (.ptr (bE q)) (jD K q) (fun p _ => D2 K q p) rfl (by have := hF.zones; omega), ?_, rfl, rfl⟩, ⟨Nat.le_of_ble_eq_true rfl, ?_, rfl, by kernel_rfl⟩, ?_, ?_⟩
 . intro x hx
   exact vk _ _ _ x hx
 . intro r hr
   rcases List.mem_cons.1 hr with rfl | hr
   . exact ⟨by omega, [.d (.int .i64 0), .nil 5, .d (.str [])], by kernel_rfl⟩
   . rcases List.mem_cons.1 hr with rfl | hr
     . exact ⟨by omega, [.own 200], by kernel_rfl⟩
     . cases hr
 . intro k x hx
   obtain ⟨i, p, rfl, hp⟩ := mj _ _ _ k x hx
   have hz : (bM w.zones K q)[k]? = some p.zone := by unfold bM; rw [List.getElem?_map, hp]; rfl
   have hkl : k < (bM w.zones K q).length := (List.getElem?_eq_some_iff.1 hz).1
   conv => whnf
   refine ⟨by (show (((bM w.zones K q).take k).map aL).length + 1 <= _); simp; omega, by (show ((((bM w.zones K q).take k).map aL).length + 1) * 40 <= _); simp; omega, ?_⟩
   conv => whnf
   refine ⟨?_, fun r hr => ?_⟩
   . show ai si _ ⟨[], [(100006, .box [.d (.int .i64 0), .nil 5, .d (.str [])]), (100009, .box [.own 200]), (200, .row 47 2 (((bM w.zones K q).take (k + 1)).map aL))]⟩
     rw [bF hz, List.map_append]
     exact ai.keep trivial ⟨⟨(by kernel_rfl), (by kernel_rfl)⟩, ⟨(by kernel_rfl), (by kernel_rfl)⟩, ⟨(by kernel_rfl), (by kernel_rfl)⟩, trivial⟩
   . rcases List.mem_cons.1 hr with rfl | hr
     . exact au.2 ⟨_, aC ..⟩
     . rcases List.mem_cons.1 hr with rfl | hr
       . exact au.2 ⟨_, by rw [aI _ _ (by omega), aC]⟩
       . cases hr
 . rw [lJ]
   have : (bM w.zones K q).take (w.zones.filter (jD K q)).length = bM w.zones K q := List.take_of_length_le (by unfold bM; rw [List.length_map]; exact Nat.le_refl _)
   dsimp only
   rw [this]
   have hperm := lT (qK (bM w.zones K q))
   conv => whnf
   refine ab (fun h2 => ?_) (fun h2 => ?_) <;> (rw [h2]; conv => whnf)
   . have hnil : bM w.zones K q = [] := by
      apply List.eq_nil_of_length_eq_zero
      have h2' : (((bM w.zones K q).map aL).length : Int) = 0 := by simpa using h2
      rw [List.length_map] at h2'; omega
     refine ae rfl ?_
     rw [hask, hnil]; rfl
   . have hlen : (c9 gR (bM w.zones K q)).length = (bM w.zones K q).length := hperm.length_eq
     have hpos : 0 < (bM w.zones K q).length := by
      have h2' : ¬ (((bM w.zones K q).map aL).length : Int) = 0 := by simpa using h2
      rw [List.length_map] at h2'; omega
     have hmem : ∀ z ∈ c9 gR (bM w.zones K q), ep z = true := fun z hz => by
      have hz := hperm.subset hz
      unfold bM at hz
      obtain ⟨p, hp, rfl⟩ := List.mem_map.1 hz
      exact hF.few p (List.mem_filter.1 hp).1
     have hS := fun fl => Dw (bM w.zones K q) (by omega) fl
     refine ⟨D3 q (bM w.zones K q), ai.keep ⟨⟨(by kernel_rfl), (by kernel_rfl)⟩, ⟨(by kernel_rfl), (by kernel_rfl)⟩, ⟨(by kernel_rfl), (by kernel_rfl)⟩, trivial⟩ ⟨⟨(by kernel_rfl), (by kernel_rfl)⟩, ⟨(by kernel_rfl), (by kernel_rfl)⟩, ⟨(by kernel_rfl), (by kernel_rfl)⟩, trivial⟩, ?_⟩
     generalize c9 gR (bM w.zones K q) = L at *
     refine D4 q _ L _ (by kernel_rfl) _ (hS _) fun st hst => ?_
     conv => whnf
     refine ⟨_, hst, ?_⟩
     cases L with
     | nil => simp at hlen; omega
     | cons z t =>
      have hz := hmem z (List.mem_cons_self ..)
      conv => whnf
      refine ⟨by decide, by (show 0 < ((z :: t).map aL).length); simp, ?_⟩
      conv => whnf
      have one : ((q.type == 6) && (z.apex == q.name)) = false -> jM w a q = bn z q := fun hb => by rw [hask]; unfold lO; dsimp only; rw [hb]; rfl
      refine ⟨aL z, rfl, ?_⟩
      conv => whnf
      refine ab (fun h6 => ?_) (fun h6 => ?_) <;> (rw [h6]; conv => whnf)
      case refine_2 =>
       (refine ⟨_, _, jL z q (by have := (dN hz).1; omega), ?_⟩; conv => whnf)
       refine ae rfl ?_
       rw [one (by rw [h6]; rfl)]; rfl
      refine ab (fun ha => ?_) (fun ha => ?_) <;> (rw [ha]; conv => whnf)
      case refine_2 =>
       (refine ⟨_, _, jL z q (by have := (dN hz).1; omega), ?_⟩; conv => whnf)
       refine ae rfl ?_
       rw [one (by rw [ha]; simp)]; rfl
      refine ab (fun hl => ?_) (fun hl => ?_) <;> (rw [hl]; conv => whnf)
      case refine_2 =>
       have ht : t = [] := by
        cases t with
        | nil => rfl
        | cons y t => exfalso; have := of_decide_eq_false hl; simp at this; omega
       subst ht
       (refine ⟨_, _, jL z q (by have := (dN hz).1; omega), ?_⟩; conv => whnf)
       refine ae rfl ?_
       have e : jM w a q = bn z q := by
        rw [hask]; unfold lO; dsimp only
        have h6' : (q.type == 6) = true := h6
        have ha' : (z.apex == q.name) = true := ha
        rw [h6', ha']; rfl
       rw [e]; rfl
      cases t with
      | nil => exfalso; have := of_decide_eq_true hl; simp at this
      | cons y t =>
       have hy := hmem y (List.mem_cons_of_mem _ (List.mem_cons_self ..))
       refine ⟨by decide, by (show 1 < ((z :: y :: t).map aL).length; simp), ?_⟩
       conv => whnf
       refine ⟨aL y, rfl, ?_⟩
       conv => whnf
       (refine ⟨_, _, jL y q (by have := (dN hy).1; omega), ?_⟩; conv => whnf)
       refine ae rfl ?_
       have e : jM w a q = bn y q := by
        rw [hask]; unfold lO; dsimp only
        have h6' : (q.type == 6) = true := h6
        have ha' : (z.apex == q.name) = true := ha
        rw [h6', ha']; rfl
       rw [e]; rfl
end Go.Proofs.YtnbnldnfkikakaaGreatDoor

set_option maxRecDepth 100000
namespace NP
open NQ Go
def jk (n : Bs) (t : Int) (d : Datum) : Signed := ⟨⟨n, t, 9, [d]⟩, []⟩
def BE : aq := ⟨[46], [jk [46] 2 ⟨[97, 46, 110, 115], 0, 0⟩, jk [46] 4 ⟨[], 1, 0⟩, jk [120] 2 ⟨[98, 46, 110, 115], 0, 0⟩]⟩
def xX : aq := ⟨[120], [jk [120] 2 ⟨[98, 46, 110, 115], 0, 0⟩, jk [120] 4 ⟨[], 1, 0⟩, jk [108, 46, 120] 3 ⟨[116, 46, 120], 0, 0⟩, jk [116, 46, 120] 5 ⟨[116], 0, 0⟩]⟩
def exW : bg := ⟨[⟨[97, 46, 110, 115], 1, 0⟩, ⟨[98, 46, 110, 115], 2, 1⟩], [⟨0, BE⟩, ⟨1, xX⟩], ⟨[46], 6, 0, [⟨[], 1, 1⟩]⟩, [1]⟩
def EE : bg := ⟨exW.hosts, [⟨0, BE⟩], exW.anchor, exW.hints⟩
def H6 : bg := ⟨[⟨[97, 46, 110, 115], 1, 0⟩, ⟨[98, 46, 110, 115], 1, 1⟩], [⟨0, BE⟩], exW.anchor, exW.hints⟩
def I5 (w : bg) (l : List af) : bg := ⟨w.hosts, l, w.anchor, w.hints⟩
def qLX : ay := ⟨[108, 46, 120], 5⟩
def qTX : ay := ⟨[116, 46, 120], 5⟩
def qY : ay := ⟨[121], 5⟩
theorem gI : l7 exW := ⟨by decide, by decide, by decide, fun p hp => by
 rcases List.mem_cons.1 hp with rfl | hp
 . kernel_rfl
 . rcases List.mem_cons.1 hp with rfl | hp
   . kernel_rfl
   . cases hp⟩
theorem EF : l7 EE := ⟨by decide, by decide, by decide, fun p hp => by
 rcases List.mem_cons.1 hp with rfl | hp
 . kernel_rfl
 . cases hp⟩
theorem wS {w : bg} {q : ay} {a : Int} (hval : bt w = true) (hq : bc q = true) (hF : l7 w) : jM w a q = if lL w.hosts a < 0 then (fj, 4) else (qp w.zones (lL w.hosts a) q, 0) := by
 unfold jM
 rw [if_neg (by rw [hval, hq]; simp)]
 split
 . rfl
 . rename_i h
   exact Cj hval hF hq (by omega)
theorem ju : bt exW = true := by kernel_rfl
theorem EI : ir exW qLX = (⟨1, [jk [108, 46, 120] 3 ⟨[116, 46, 120], 0, 0⟩, jk [116, 46, 120] 5 ⟨[116], 0, 0⟩], []⟩, 0) := by kernel_rfl
theorem GC : ir EE qLX = (fj, 34) := by kernel_rfl
theorem Gz : jM exW 1 qTX = (⟨4, [jk [120] 2 ⟨[98, 46, 110, 115], 0, 0⟩], [120]⟩, 0) := by
 rw [wS ju (by kernel_rfl) gI]; kernel_rfl
theorem GA : jM exW 2 qY = (⟨7, [], []⟩, 0) := by
 rw [wS ju (by kernel_rfl) gI]; kernel_rfl
theorem GB : jM exW 3 qY = (fj, 4) := by
 rw [wS ju (by kernel_rfl) gI]; kernel_rfl
theorem EG : gT true exW [116, 46, 120] = ([120], 0) := by kernel_rfl
theorem EH : gT true exW [121] = ([46], 0) := by kernel_rfl
theorem AT : bt H6 = false := by kernel_rfl
end NP
namespace Go.Proofs.YtnbnldnfkikakaaGreatDoor
open NQ Go NP Go.RowKit
noncomputable def cxE : Cx := { cx with bld := [14, 28, 38, 40, 42, 100032] }
theorem tyE : aP cxE := az
theorem Ia : cxE.P.follows .mixedOrders = true := mixed
noncomputable def Eu : Cx := { cx with bld := [10] }
theorem Jk : aP Eu := az
theorem G4 : Eu.P.follows .mixedOrders = true := mixed
theorem jo (n : Bs) (t : Int) (d : Datum) : NQ.Fn cx 90 [.str n, .int .i64 t, .agg (bP d)] (.agg ((aj (jk n t d)).map .d)) [] := by
 show NQ.Fn Eu _ _ _ _
 refine de (fun _ => []) Jk G4 Tryz.func90 (by kernel_rfl) rfl (Nat.le_of_ble_eq_true rfl) ?_
 conv => whnf
 exact ae rfl rfl
def Jc : AV := .agg (.own 32 :: ((bz exW).drop 1).map .d)
def Jd : List (Nat × Blk) := [(32, .row 51 3 (exW.hosts.map du) true)]
theorem xo : NQ.Fn cx 33 [] Jc Jd := by
 show NQ.Fn cxE _ _ _ _
 refine de (fun _ => []) tyE Ia Tryz.func33 (by kernel_rfl) rfl (Nat.le_of_ble_eq_true rfl) ?_
 conv => whnf
 (refine ⟨_, _, jo [46] 2 ⟨[97, 46, 110, 115], 0, 0⟩, ?_⟩; conv => whnf)
 (refine ⟨_, _, jo [46] 4 ⟨[], 1, 0⟩, ?_⟩; conv => whnf)
 (refine ⟨_, _, jo [120] 2 ⟨[98, 46, 110, 115], 0, 0⟩, ?_⟩; conv => whnf)
 (refine ⟨_, _, jo [120] 2 ⟨[98, 46, 110, 115], 0, 0⟩, ?_⟩; conv => whnf)
 (refine ⟨_, _, jo [120] 4 ⟨[], 1, 0⟩, ?_⟩; conv => whnf)
 (refine ⟨_, _, jo [108, 46, 120] 3 ⟨[116, 46, 120], 0, 0⟩, ?_⟩; conv => whnf)
 (refine ⟨_, _, jo [116, 46, 120] 5 ⟨[116], 0, 0⟩, ?_⟩; conv => whnf)
 exact sL (by kernel_rfl) (by kernel_rfl) ⟨⟨by kernel_rfl, by kernel_rfl⟩, trivial⟩
end Go.Proofs.YtnbnldnfkikakaaGreatDoor

set_option maxRecDepth 100000
namespace Go.Proofs.YtnbnldnfkikakaaGreatDoor
open NQ Go NP Go.RowKit
theorem xH (w : bg) (s : Bs) (hF : l7 w) : NQ.Fn cx 16 [.agg (bz w), .str s] (.tuple [.d (.str (gT (bt w) w s).1), .d (.int .i64 (gT (bt w) w s).2)]) [] :=
 GM w s (bt w) (lu w (by have := hF.hosts; omega) (by have := hF.zones; omega) (by have := hF.hints; omega)) (by have := hF.zones; omega)
theorem DM (w : bg) (hF : l7 w) : NQ.Fn cx 19 [.agg (bz w)] (.d (.bool (bt w))) [] := lu w (by have := hF.hosts; omega) (by have := hF.zones; omega) (by have := hF.hints; omega)
theorem BX (w : bg) (hF : l7 w) : NQ.Fn cx 20 [.agg (bz w)] (.d (.bool (bt w))) [] := DL w (by have := hF.hosts; omega) (by have := hF.zones; omega) (by have := hF.hints; omega) (fun p hp => by have := (dN (hF.few p hp)).1; omega)
set_option maxHeartbeats 2000000 in
theorem I8 : NQ.Fn cx 10 [] (.d (.bool true)) [] := by
 have fT := yC exW qLX gI; rw [EI] at fT
 have fA := wT exW 1 qTX gI; rw [Gz] at fA
 have fB := wT exW 2 qY gI; rw [GA] at fB
 have fC := wT exW 3 qY gI; rw [GB] at fC
 have fH := xH exW [116, 46, 120] gI; rw [ju, EG] at fH
 have fI := xH exW [121] gI; rw [ju, EH] at fI
 have fV := DM exW gI; rw [ju] at fV
 have fD := yC EE qLX EF; rw [GC] at fD
 have fW := lu H6 (by decide) (by decide) (by decide); rw [AT] at fW
 have fS := tR ⟨1, [jk [108, 46, 120] 3 ⟨[116, 46, 120], 0, 0⟩, jk [116, 46, 120] 5 ⟨[116], 0, 0⟩], []⟩ ⟨1, [jk [108, 46, 120] 3 ⟨[116, 46, 120], 0, 0⟩, jk [116, 46, 120] 5 ⟨[116], 0, 0⟩], []⟩ (by decide) (by decide)
 rw [decide_eq_true rfl] at fS
 refine de (fun _ => []) az mixed Tryz.func10 (by kernel_rfl) rfl (Nat.le_of_ble_eq_true rfl) ?_
 conv => whnf
 (refine ⟨_, _, xo, ?_⟩; conv => whnf)
 refine ⟨_, fT, by kernel_rfl, ?_⟩
 conv => whnf
 refine ⟨_, fA, by kernel_rfl, ?_⟩
 conv => whnf
 refine ⟨_, fB, by kernel_rfl, ?_⟩
 conv => whnf
 refine ⟨_, fH, by kernel_rfl, ?_⟩
 conv => whnf
 refine ⟨_, fI, by kernel_rfl, ?_⟩
 conv => whnf
 refine ⟨_, fC, by kernel_rfl, ?_⟩
 conv => whnf
 refine ⟨_, fV, by kernel_rfl, ?_⟩
 conv => whnf
 repeat' (first
  | (refine ⟨(by kernel_rfl : aH _ _ = true), ?_⟩; conv => whnf)
  | (refine ⟨_, _, fS, ?_⟩; conv => whnf)
  | (refine ⟨_, fD, by kernel_rfl, ?_⟩; conv => whnf)
  | (refine ⟨_, fW, by kernel_rfl, ?_⟩; conv => whnf)
  | (refine ⟨by decide, by decide, by decide, ?_⟩; conv => whnf)
  | (refine ⟨by decide, by decide, ?_⟩; conv => whnf)
  | (refine ⟨by decide, aQ _, rfl, ?_⟩; conv => whnf)
  | (refine ⟨du _, rfl, ?_⟩; conv => whnf)
  | exact ae rfl rfl
  | fail)
theorem IK (w : bg) (q : ay) : NQ.Fn cx 21 [.agg (bz w), .agg (bE q)] (.d (.bool (ko w && bt w && bc q))) [] := by
 refine ao az mixed Tryz.func21 (by kernel_rfl) rfl (Nat.le_of_ble_eq_true rfl) ?_; conv => whnf
 (refine ⟨_, _, GF w, ?_⟩; conv => whnf)
 cases hf : ko w with
 | false =>
  conv => whnf
  exact ae rfl rfl
 | true =>
  have hF := (EJ hf).1
  conv => whnf
  (refine ⟨_, _, BX w hF, ?_⟩; conv => whnf)
  cases hv : bt w with
  | false =>
   conv => whnf
   exact ae rfl rfl
  | true =>
   conv => whnf
   (refine ⟨_, _, Dk q, ?_⟩; conv => whnf)
   exact ae rfl rfl
theorem I9 (w : bg) (l : List af) : NQ.Fn cx 22 [.agg (bz w), .slice 3 (l.map aQ)] (.agg ((bz (I5 w l)).map .d)) [] := by
 refine ao az mixed Tryz.func22 (by kernel_rfl) rfl (Nat.le_of_ble_eq_true rfl) ?_; conv => whnf
 exact ae rfl rfl
end Go.Proofs.YtnbnldnfkikakaaGreatDoor

set_option maxRecDepth 100000
namespace NP
open NQ Go
theorem rU {zs : List af} (hg : oi zs) : ∀ (f : Nat) (q : ay) (kept : List Signed), bc q = true -> (∀ s ∈ kept, ∃ p ∈ zs, s ∈ p.zone.sets) ->
 (∀ s ∈ (iL zs f q kept).1.sets, ∃ p ∈ zs, s ∈ p.zone.sets) /\ (iL zs f q kept).1.sets.length <= kept.length + f + 1000
 | 0, q, kept, _, _ => ⟨fun s hs => (by cases hs), by simp [iL, fj]⟩
 | f + 1, q, kept, hq, hk => by
  unfold iL
  cases hok : (cD zs q).2 with
  | false => exact ⟨fun s hs => (by cases hs), by simp [fj]⟩
  | true =>
   rw [if_neg (by simp)]
   obtain ⟨p, hpm, u, hpa, hp4⟩ := qo hg hq (x := (cD zs q).1) (by rw [<- hok])
   split
   . refine ⟨fun s hs => ?_, ?_⟩
     . rcases List.mem_append.1 hs with hs | hs
       . exact hk s hs
       . rw [hpa] at hs; exact ⟨p, hpm, zI u.few q s hs⟩
     . have := um u.few q
       show (kept ++ (cD zs q).1.sets).length <= _
       rw [List.length_append, hpa]; omega
   . rename_i h2
     have hk3 : (bn p.zone q).1.kind = 3 := by rw [<- hpa]; simpa using h2
     obtain ⟨s, R, d, hs, hsm, hst, hsd, hdv⟩ := u.Ca hk3
     rw [<- hpa] at hs
     rw [hs]
     simp only [List.head?_cons, hsd]
     have := rU hg f ⟨d.text, q.type⟩ (kept ++ [s]) (by
      unfold bc at hq ⊢
      simp only [Bool.and_eq_true] at hq ⊢
      exact ⟨⟨hdv, hq.1.2⟩, hq.2⟩) fun x hx => by
       rcases List.mem_append.1 hx with hx | hx
       . exact hk x hx
       . rw [List.mem_singleton] at hx; subst hx; exact ⟨p, hpm, hsm⟩
     refine ⟨this.1, ?_⟩
     have h := this.2
     rw [List.length_append, List.length_singleton] at h
     omega
structure sY (a : Ans) : Prop where
 len : a.sets.length <= 100000
 small : ∀ s ∈ a.sets, s.set.data.length <= 100000 /\ s.sigs.length <= 100000
theorem IJ {w : bg} (hF : l7 w) (q : ay) : sY (ir w q).1 := by
 unfold ir
 split
 . exact ⟨by decide, fun s hs => by cases hs⟩
 . rename_i h
   have hv : bt w = true /\ bc q = true := by simpa using h
   have hg : oi w.zones := fun p hp => ⟨hF.few p hp, (mM hv.1 p hp).1⟩
   obtain ⟨h1, h2⟩ := rU hg 9 q [] hv.2 (fun s hs => by cases hs)
   refine ⟨by rw [List.length_nil] at h2; omega, fun s hs => ?_⟩
   obtain ⟨p, hp, hm⟩ := h1 s hs
   have := (dN (hF.few p hp)).2 s hm
   omega
theorem II {zs : List af} (hf : ∀ p ∈ zs, ep p.zone = true) {K : Int} (hK : 0 <= K) (q : ay) : sY (qp zs K q) := by
 unfold qp
 cases h : mJ zs K q with
 | none => exact ⟨Nat.zero_le _, fun s hs => by cases hs⟩
 | some x =>
  have hx := hf _ (tU hK h).2.1
  show sY (bn x.2.zone q).1
  exact ⟨by have := um hx q; omega, Ce hx q⟩
end NP
namespace Go.Proofs.YtnbnldnfkikakaaGreatDoor
open NQ Go NP Go.RowKit
theorem IH (a : Ans) (h : sY a) : NQ.Fn cx 18 [.agg (eh a), .agg (eh a)] (.d (.bool true)) [] := by
 have := tR a a h.len h.small
 rw [decide_eq_true rfl] at this
 exact this
end Go.Proofs.YtnbnldnfkikakaaGreatDoor
