/-
  Texts of the proof, merged in build order.
-/
import Derived.Test.YtnbnldnfkikakaaGreatDoorMGa
import Derived.Test.YtnbnldnfkikakaaGreatDoorQsoM
import Derived.Test.YtnbnldnfkikakaaGreatDoorSortM
import Derived.Test.YtnbnldnfkikakaaGreatDoorMLrc
import Derived.Test.YtnbnldnfkikakaaGreatDoorMCa
import Derived.Test.YtnbnldnfkikakaaGreatDoorMVa
set_option linter.all false
set_option maxRecDepth 100000
namespace NP
open NQ Go
theorem sH (s : Bs) : 0 <= cv s /\ cv s <= 8 := by
 unfold cv cy
 split
 . rename_i h; have := ri h; dsimp only; omega
 . simp
def hZ (a b : aq) : Int := cv b.apex - cv a.apex
def CQ : List D -> Bs
 | .str s :: _ => s
 | _ => []
def GC (x y : List D) : Int := cv (CQ y) - cv (CQ x)
theorem qV (l : List aq) : iK hZ l := iK.key (fun z => - cv z.apex) fun x _ y _ => by unfold hZ; omega
theorem Cn (l : List aq) : dy GC (l.map aA) = (dy hZ l).map aA := D1 aA hZ GC l fun x _ y _ => rfl
def jY (k : Int) (q : ax) (p : ai) : Bool := decide (p.host = k) && (aL q.name p.zone.apex).1
def bP (zs : List ai) (k : Int) (q : ax) : List aq := (zs.filter (jY k q)).map (·.zone)
def mb (l : List jA) (a : Int) : Int := match l.findIdx? (fun h => h.addr == a) with | some k => (k : Int) | none => -1
def mg (q : ax) (l : List aq) : Option aq := match l with
 | [] => none
 | z :: t => if ((q.type == 6) && (z.apex == q.name)) = true then (match t with | y :: _ => some y | [] => some z) else some z
def j7 (w : bt) (a : Int) (q : ax) : Ans × Int :=
 if (bC w && aP q) = false then (dX, 1) else if mb w.hosts a < 0 then (dX, 4)
 else match mg q (dy hZ (bP w.zones (mb w.hosts a) q)) with
  | none => (⟨7, [], []⟩, 0)
  | some z => bg z q
end NP
namespace Go.Proofs.YtnbnldnfkikakaaGreatDoor
open NQ Go NP Go.RowKit
noncomputable def sF : Cx := { cx with chg := fun g => match Nat.beq g 41 with | true => 2 | false => cx.chg g }
theorem JT : aT sF := aB
theorem H4 : sF.P.follows .mixedOrders = true := mixed
theorem G4 (a b : aq) : NQ.Fn cx 42 [.agg (aA a), .agg (aA b)] (.d (.int .i64 (hZ a b))) [] := by
 refine ar aB mixed Tryz.func42 (by kernel_rfl) rfl (Nat.le_of_ble_eq_true rfl) ?_; conv => whnf
 (refine ⟨(by kernel_rfl : aO _ _ = true), ?_⟩; conv => whnf)
 (refine ⟨_, _, qM b.apex, ?_⟩; conv => whnf)
 (refine ⟨_, _, qM a.apex, ?_⟩; conv => whnf)
 refine ae rfl ?_
 show AV.d (.int .i64 (IntKind.i64.wrap (cv b.apex - cv a.apex))) = _
 have h1 := sH a.apex
 have h2 := sH b.apex
 rw [wrap_i64 (by omega) (by omega)]; rfl
theorem D2 (l : List aq) (hl : l.length <= 100000) (fl : Bool) : FnR cx 41 false 47 2 (l.map aA) fl [.fn 42 [] []] ((dy hZ l).map aA) := by
 rw [<- Cn]
 exact Gd (cx := cx) (ρ := Tryz.sort41_ren) Tryz.sort41 (k := 2) Tryz.isAgg47 Tryz.sizeOf47 ⟨_, Tryz.func41, by kernel_rfl, rfl⟩
  (fun x hx y hy => by
   obtain ⟨a, ha, rfl⟩ := List.mem_map.1 hx
   obtain ⟨b, hb, rfl⟩ := List.mem_map.1 hy
   exact G4 a b) (enters_of Tryz.func42 (by kernel_rfl) rfl) ((qV l).map fun x _ y _ => rfl) (by rw [List.length_map]; omega)
end Go.Proofs.YtnbnldnfkikakaaGreatDoor

set_option maxRecDepth 100000
namespace NP
open NQ Go
def eJ (ok : ai -> Bool) (better : ai -> ai -> Bool) : Nat -> List ai -> Option (Nat × ai) -> Option (Nat × ai)
 | _, [], b => b
 | i, p :: t, b => eJ ok better (i + 1) t (if ok p = true then (match b with | none => some (i, p) | some x => if better p x.2 = true then some (i, p) else b) else b)
def FZ : Option (Nat × ai) -> Int
 | none => -1
 | some x => (x.1 : Int)
def b5 (ok : ai -> Bool) (better : ai -> ai -> Bool) (i : Nat) (p : ai) (b : Option (Nat × ai)) : Option (Nat × ai) := if ok p = true then (match b with | none => some (i, p) | some x => if better p x.2 = true then some (i, p) else b) else b
theorem CV {ok : ai -> Bool} {better : ai -> ai -> Bool} {l : List ai} {k : Nat} {p : ai} (h : l[k]? = some p) (b : Option (Nat × ai)) : eJ ok better k (l.drop k) b = eJ ok better (k + 1) (l.drop (k + 1)) (b5 ok better k p b) := by
 rw [drop_cons h]; rfl
def jl (zs : List ai) (b : Option (Nat × ai)) : Prop := ∀ x, b = some x -> zs[x.1]? = some x.2
theorem jl.step {zs : List ai} {b : Option (Nat × ai)} (h : jl zs b) {ok : ai -> Bool} {better : ai -> ai -> Bool} {i : Nat} {p : ai} (hp : zs[i]? = some p) : jl zs (b5 ok better i p b) := by
 intro x hx
 unfold b5 at hx
 split at hx
 . split at hx
   . cases hx; exact hp
   . split at hx
     . cases hx; exact hp
     . exact h x hx
 . exact h x hx
theorem uP {zs : List ai} {ok : ai -> Bool} {better : ai -> ai -> Bool} : ∀ (l : List ai) (i : Nat) (b : Option (Nat × ai)), (∀ j, l[j]? = zs[i + j]?) -> jl zs b -> jl zs (eJ ok better i l b)
 | [], i, b, _, h => h
 | p :: t, i, b, hl, h => uP t (i + 1) _ (fun j => by have := hl (j + 1); simp at this; rw [this]; congr 1; omega) (h.step (by have := hl 0; simpa using this.symm))
theorem nh {ok : ai -> Bool} {better : ai -> ai -> Bool} : ∀ (l : List ai) (i : Nat) (b : Option (Nat × ai)), eJ ok better i l b = none ↔ (b = none /\ ∀ p ∈ l, ok p = false)
 | [], i, b => by simp [eJ]
 | p :: t, i, b => by
  show eJ ok better (i + 1) t (b5 ok better i p b) = none ↔ _
  rw [nh t]
  unfold b5
  cases hp : ok p <;> cases b <;> simp [hp]
  intro h; split at h <;> cases h
theorem xF {ok : ai -> Bool} {key : ai -> Int} : ∀ (l : List ai) (i : Nat) (b : Option (Nat × ai)) (x : Nat × ai), eJ ok (fun p q => decide (key q < key p)) i l b = some x ->
 (b = some x \/ (x.2 ∈ l /\ ok x.2 = true)) /\ (∀ y, b = some y -> key y.2 <= key x.2) /\ ∀ p ∈ l, ok p = true -> key p <= key x.2
 | [], i, b, x, h => by cases h; exact ⟨.inl rfl, fun y hy => by cases hy; exact Int.le_refl _, fun p hp => by cases hp⟩
 | p :: t, i, b, x, h => by
  obtain ⟨h1, h2, h3⟩ := xF t (i + 1) (b5 ok (fun p q => decide (key q < key p)) i p b) x h
  unfold b5 at h1 h2
  by_cases hp : ok p = true
  . rw [if_pos hp] at h1 h2
    cases b with
    | none =>
     refine ⟨.inr ?_, fun y hy => (by cases hy), fun q hq hoq => ?_⟩
     . rcases h1 with h1 | h1
       . cases h1; exact ⟨List.mem_cons_self .., hp⟩
       . exact ⟨List.mem_cons_of_mem _ h1.1, h1.2⟩
     . rcases List.mem_cons.1 hq with rfl | hq
       . exact h2 (i, q) rfl
       . exact h3 q hq hoq
    | some y =>
     dsimp only at h1 h2
     by_cases hb : key y.2 < key p
     . rw [if_pos (decide_eq_true hb)] at h1 h2
       have hpx := h2 (i, p) rfl
       refine ⟨.inr ?_, fun z hz => by cases hz; dsimp only at hpx; omega, fun q hq hoq => ?_⟩
       . rcases h1 with h1 | h1
         . cases h1; exact ⟨List.mem_cons_self .., hp⟩
         . exact ⟨List.mem_cons_of_mem _ h1.1, h1.2⟩
       . rcases List.mem_cons.1 hq with rfl | hq
         . exact hpx
         . exact h3 q hq hoq
     . rw [if_neg (by simpa using hb)] at h1 h2
       have hyx := h2 y rfl
       refine ⟨?_, fun z hz => h2 z hz, fun q hq hoq => ?_⟩
       . rcases h1 with h1 | h1
         . exact .inl h1
         . exact .inr ⟨List.mem_cons_of_mem _ h1.1, h1.2⟩
       . rcases List.mem_cons.1 hq with rfl | hq
         . omega
         . exact h3 q hq hoq
  . rw [if_neg hp] at h1 h2
    refine ⟨?_, h2, fun q hq hoq => ?_⟩
    . rcases h1 with h1 | h1
      . exact .inl h1
      . exact .inr ⟨List.mem_cons_of_mem _ h1.1, h1.2⟩
    . rcases List.mem_cons.1 hq with rfl | hq
      . exact absurd hoq hp
      . exact h3 q hq hoq
def iB (s : Bs) : Int := ((az s).length : Int)
theorem nM {s : Bs} (h : af s = true) : cv s = iB s := by unfold cv iB cy; rw [if_pos h]
theorem tq {s a : Bs} (hs : af s = true) (ha : af a = true) : (aL s a).1 = ao s a := by unfold aL; rw [if_pos ⟨hs, ha⟩]
theorem zf {s : Bs} (h : af s = true) : s ≠ [] := by rintro rfl; revert h; decide
def iu (host : Int) (nm nt : Bs) (p : ai) : Bool := !((decide (host >= 0) && (p.host != host)) || (p.zone.apex == nt) || !ao nm p.zone.apex)
def kQ (p : ai) : Int := iB p.zone.apex
def pO (p q : ai) : Bool := decide (kQ q < kQ p)
def iP (zs : List ai) (host : Int) (nm nt : Bs) : Option (Nat × ai) := eJ (iu host nm nt) pO 0 zs none
def toH : Option (Nat × ai) -> Bs × Int
 | none => ([], -1)
 | some x => (x.2.zone.apex, cv x.2.zone.apex)
theorem vM {s : Bs} (hs : af s = true) : ∀ (l : List ai) (i : Nat) (b : Option (Nat × ai)), (∀ p ∈ l, af p.zone.apex = true) -> (∀ x, b = some x -> af x.2.zone.apex = true) -> dP s l (toH b) = toH (eJ (iu (-1) s []) pO i l b)
 | [], i, b, _, _ => rfl
 | p :: t, i, b, hl, hb => by
  have hp := hl p (List.mem_cons_self ..)
  have e : (if (aL s p.zone.apex).1 = true /\ (toH b).2 < cv p.zone.apex then (p.zone.apex, cv p.zone.apex) else toH b) = toH (b5 (iu (-1) s []) pO i p b) := by
   have hok : iu (-1) s [] p = ao s p.zone.apex := by
    unfold iu
    have : (p.zone.apex == []) = false := by simpa using zf hp
    rw [this]; simp
   unfold b5
   rw [hok, tq hs hp]
   have h0 : 0 <= cv p.zone.apex := (sH _).1
   cases hu : ao s p.zone.apex with
   | false => simp
   | true =>
    cases b with
    | none => simp only [toH, true_and, if_true]; rw [if_pos (by omega)]
    | some x =>
     have ed : pO p x.2 = decide (cv x.2.zone.apex < cv p.zone.apex) := by
      unfold pO kQ; rw [nM hp, nM (hb x rfl)]
     simp only [toH, true_and, if_true, ed, decide_eq_true_eq]
     split <;> rfl
  refine (congrArg (dP s t) e).trans ?_
  refine vM hs t (i + 1) _ (fun q hq => hl q (List.mem_cons_of_mem _ hq)) fun x hx => ?_
  unfold b5 at hx
  split at hx
  . split at hx
    . cases hx; exact hp
    . split at hx
      . cases hx; exact hp
      . exact hb x hx
  . exact hb x hx
theorem JF {s : Bs} (hs : af s = true) {zs : List ai} (hz : ∀ p ∈ zs, af p.zone.apex = true) : dP s zs ([], -1) = toH (iP zs (-1) s []) := vM hs zs 0 none hz (fun x hx => by cases hx)
def l0 (zs : List ai) (a : Bs) : Option (Nat × ai) := eJ (fun p => p.zone.apex == a) eL 0 zs none
theorem wz {zs : List ai} {a : Bs} : ∀ (l : List ai) (i : Nat) (m : List (Bs × Nat)) (b : Option (Nat × ai)), (∀ j, l[j]? = zs[i + j]?) -> jl zs b -> dC a m = b.map (·.1) -> dC a (jz zs i l m) = (eJ (fun p => p.zone.apex == a) eL i l b).map (·.1)
 | [], i, m, b, _, _, h => h
 | p :: t, i, m, b, hl, hb, h => by
  have hp : zs[i]? = some p := by have := hl 0; simpa using this.symm
  show dC a (jz zs (i + 1) t (if fE zs m p = true then kY p.zone.apex i m else m)) = (eJ (fun p => p.zone.apex == a) eL (i + 1) t (b5 (fun p => p.zone.apex == a) eL i p b)).map (·.1)
  refine wz t (i + 1) _ _ (fun j => by have := hl (j + 1); simp at this; rw [this]; congr 1; omega) (hb.step hp) ?_
  by_cases ha : p.zone.apex = a
  . have hb' : ∀ b, b5 (fun p => p.zone.apex == a) eL i p b = (match b with | none => some (i, p) | some x => if eL p x.2 = true then some (i, p) else b) := fun b => by
     unfold b5; exact if_pos (by show (p.zone.apex == a) = true; rw [ha]; exact beq_self_eq_true a)
    rw [hb']
    cases b with
    | none =>
     have ht : fE zs m p = true := by unfold fE; rw [ha, h]; rfl
     rw [if_pos ht, lO, if_pos ha]; rfl
    | some x =>
     have hx := hb x rfl
     have ht : fE zs m p = eL p x.2 := by unfold fE; rw [ha, h]; simp only [Option.map_some]; rw [hx]
     dsimp only
     rw [ht]
     split
     . rw [lO, if_pos ha]; rfl
     . exact h
  . have hb' : b5 (fun p => p.zone.apex == a) eL i p b = b := by unfold b5; exact if_neg (by simpa using ha)
    rw [hb']
    split
    . rw [lO, if_neg ha]; exact h
    . exact h
theorem wA (zs : List ai) (a : Bs) : dC a (dU zs) = (l0 zs a).map (·.1) := wz zs 0 [] none (fun j => by rw [Nat.zero_add]) (fun x hx => by cases hx) rfl
theorem xQ (zs : List ai) (a : Bs) : jl zs (l0 zs a) := uP zs 0 none (fun j => by rw [Nat.zero_add]) (fun x hx => by cases hx)
theorem E7 (zs : List ai) (h : Int) (nm nt : Bs) : jl zs (iP zs h nm nt) := uP zs 0 none (fun j => by rw [Nat.zero_add]) (fun x hx => by cases hx)
theorem pq {n : Nat} : ∀ (l seen : List ai), de n seen l = true -> l.Pairwise (fun x p => cF p x = false) /\ ∀ p ∈ l, seen.any (cF p) = false
 | [], _, _ => ⟨List.Pairwise.nil, fun p hp => by cases hp⟩
 | x :: t, seen, h => by
  unfold de at h
  simp only [Bool.and_eq_true, Bool.not_eq_true', Bool.or_eq_false_iff] at h
  obtain ⟨h1, h2⟩ := pq t _ h.2
  refine ⟨List.Pairwise.cons (fun p hp => ?_) h1, fun p hp => ?_⟩
  . have := h2 p hp
    rw [List.any_append] at this
    simp only [Bool.or_eq_false_iff, List.any_cons, List.any_nil, Bool.or_false] at this
    exact this.2
  . rcases List.mem_cons.1 hp with rfl | hp
    . exact h.1.1.2
    . have := h2 p hp
      rw [List.any_append] at this
      simp only [Bool.or_eq_false_iff] at this
      exact this.1
theorem Ah {w : bt} (h : bC w = true) : w.zones.Pairwise (fun x p => cF p x = false) := by
 unfold bC iN at h
 simp only [Bool.and_eq_true] at h
 exact (pq _ _ h.1.2.1.2).1
theorem v8 : ∀ {zs : List ai}, zs.Pairwise (fun x p => cF p x = false) -> ∀ {p q : ai}, p ∈ zs -> q ∈ zs -> p.host = q.host -> p.zone.apex = q.zone.apex -> p = q
 | [], _, p, q, hp, _, _, _ => by cases hp
 | x :: t, h, p, q, hp, hq, e1, e2 => by
  cases h with | cons h1 h2 =>
  rcases List.mem_cons.1 hp with hp' | hp'
  . rcases List.mem_cons.1 hq with hq' | hq'
    . rw [hp', hq']
    . have := h1 q hq'; rw [<- hp'] at this; unfold cF at this; simp [e1, e2] at this
  . rcases List.mem_cons.1 hq with hq' | hq'
    . have := h1 p hp'; rw [<- hq'] at this; unfold cF at this; simp [e1, e2] at this
    . exact v8 h2 hp' hq' e1 e2
theorem FE {a b s : Bs} (ha : ao s a = true) (hb : ao s b = true) (h : iB a = iB b) : a = b := by
 have h1 := (cL _ _).1 ha
 have h2 := (cL _ _).1 hb
 refine oF ?_
 have hl : (back a).length = (back b).length := by
  unfold iB at h
  rw [back_eq, back_eq, List.length_reverse, List.length_reverse]; omega
 obtain ⟨x, hx⟩ := h1
 obtain ⟨y, hy⟩ := h2
 exact (List.append_inj (hx.trans hy.symm) hl).1
def oo (zs : List ai) (K : Int) (q : ax) : Option (Nat × ai) := match (if (q.type == 6) = true then iP zs K q.name q.name else none) with
 | some x => some x
 | none => iP zs K q.name []
def yZ (zs : List ai) (K : Int) (q : ax) : Ans := match oo zs K q with
 | none => ⟨7, [], []⟩
 | some x => (bg x.2.zone q).1
structure w5 (zs : List ai) : Prop where
 valid : ∀ p ∈ zs, af p.zone.apex = true
 pair : zs.Pairwise (fun x p => cF p x = false)
theorem xY {zs : List ai} {K : Int} {nm nt : Bs} {x : Nat × ai} (h : iP zs K nm nt = some x) : x.2 ∈ zs /\ iu K nm nt x.2 = true /\ ∀ p ∈ zs, iu K nm nt p = true -> kQ p <= kQ x.2 := by
 obtain ⟨h1, _, h3⟩ := xF zs 0 none x h
 rcases h1 with h1 | h1
 . cases h1
 . exact ⟨h1.1, h1.2, h3⟩
theorem iO {K : Int} (hK : 0 <= K) {nm nt : Bs} {p : ai} : iu K nm nt p = true ↔ p.host = K /\ p.zone.apex ≠ nt /\ ao nm p.zone.apex = true := by
 unfold iu
 rw [decide_eq_true hK]
 simp
 constructor
 . rintro ⟨⟨h1, h2⟩, h3⟩; exact ⟨h1, h2, h3⟩
 . rintro ⟨h1, h2, h3⟩; exact ⟨⟨h1, h2⟩, h3⟩
theorem Dq {zs : List ai} (hA : w5 zs) {K : Int} {q : ax} (hn : af q.name = true) {z : aq} : z ∈ bP zs K q ↔ ∃ p ∈ zs, p.host = K /\ ao q.name p.zone.apex = true /\ p.zone = z := by
 unfold bP
 rw [List.mem_map]
 constructor
 . rintro ⟨p, hp, rfl⟩
   obtain ⟨h1, h2⟩ := List.mem_filter.1 hp
   unfold jY at h2
   simp only [Bool.and_eq_true, decide_eq_true_eq] at h2
   exact ⟨p, h1, h2.1, (tq hn (hA.valid p h1)) ▸ h2.2, rfl⟩
 . rintro ⟨p, hp, h1, h2, rfl⟩
   refine ⟨p, List.mem_filter.2 ⟨hp, ?_⟩, rfl⟩
   unfold jY
   simp only [Bool.and_eq_true, decide_eq_true_eq]
   exact ⟨h1, (tq hn (hA.valid p hp)).trans h2⟩
theorem BG {zs : List ai} (hA : w5 zs) {K : Int} {q : ax} : (bP zs K q).Pairwise (fun a b => a.apex ≠ b.apex) := by
 unfold bP
 rw [List.pairwise_map]
 have h := hA.pair.filter (jY K q)
 refine List.Pairwise.imp_of_mem ?_ h
 intro a b ha hb hab e
 have ha' := (List.mem_filter.1 ha).2
 have hb' := (List.mem_filter.1 hb).2
 unfold jY at ha' hb'
 simp only [Bool.and_eq_true, decide_eq_true_eq] at ha' hb'
 unfold cF at hab
 simp [ha'.1, hb'.1, e] at hab
theorem B9 {zs : List ai} (hA : w5 zs) {K : Int} (hK : 0 <= K) {q : ax} (hn : af q.name = true) : mg q (dy hZ (bP zs K q)) = (oo zs K q).map fun x => x.2.zone := by
 have hperm := mq (qV (bP zs K q))
 have hsort := y2 (qV (bP zs K q))
 have hpair : (dy hZ (bP zs K q)).Pairwise (fun a b => a.apex ≠ b.apex) := (hperm.pairwise_iff (fun {x y} h => Ne.symm h)).2 (BG hA)
 have hmem : ∀ z, z ∈ dy hZ (bP zs K q) ↔ ∃ p ∈ zs, p.host = K /\ ao q.name p.zone.apex = true /\ p.zone = z := fun z => hperm.mem_iff.trans (Dq hA hn)
 generalize dy hZ (bP zs K q) = L at *
 have hdep : ∀ z ∈ L, cv z.apex = iB z.apex := fun z hz => by
  obtain ⟨p, hp, _, _, rfl⟩ := (hmem z).1 hz
  exact nM (hA.valid p hp)
 have hsrt : ∀ {z t}, L = z :: t -> ∀ y ∈ t, iB y.apex <= iB z.apex := fun {z t} e y hy => by
  subst e
  cases hsort with | cons h1 h2 =>
  have := h1 y hy
  unfold hZ at this
  rw [hdep z (by simp), hdep y (by simp [hy])] at this
  omega
 have one : ∀ {p p' : ai}, p ∈ zs -> p' ∈ zs -> p.host = K -> p'.host = K -> ao q.name p.zone.apex = true -> ao q.name p'.zone.apex = true -> kQ p = kQ p' -> p = p' := fun hp hp' h1 h2 u1 u2 hk => v8 hA.pair hp hp' (h1.trans h2.symm) (FE u1 u2 hk)
 have ne0 : ∀ p ∈ zs, p.zone.apex ≠ [] := fun p hp => zf (hA.valid p hp)
 unfold oo
 cases L with
 | nil =>
  have no : ∀ nt, iP zs K q.name nt = none := fun nt => by
   unfold iP
   rw [nh]
   refine ⟨rfl, fun p hp => ?_⟩
   cases hc : iu K q.name nt p with
   | false => rfl
   | true =>
    obtain ⟨h1, h2, h3⟩ := (iO hK).1 hc
    have := (hmem p.zone).2 ⟨p, hp, h1, h3, rfl⟩
    cases this
  rw [no, no]; simp [mg]
 | cons z t =>
  obtain ⟨pz, hpz, hzh, hzu, rfl⟩ := (hmem z).1 (List.mem_cons_self ..)
  have hmax : ∀ p ∈ zs, p.host = K -> ao q.name p.zone.apex = true -> kQ p <= kQ pz := fun p hp h1 h2 => by
   have hm := (hmem p.zone).2 ⟨p, hp, h1, h2, rfl⟩
   rcases List.mem_cons.1 hm with e | hm
   . unfold kQ; rw [e]; exact Int.le_refl _
   . exact hsrt rfl _ hm
  have found : ∀ nt (p : ai), p ∈ zs -> p.host = K -> ao q.name p.zone.apex = true -> p.zone.apex ≠ nt -> (∀ p' ∈ zs, p'.host = K -> ao q.name p'.zone.apex = true -> p'.zone.apex ≠ nt -> kQ p' <= kQ p) -> ∃ i, iP zs K q.name nt = some (i, p) := fun nt p hp h1 h2 h3 hm => by
   cases hd : iP zs K q.name nt with
   | none =>
    unfold iP at hd
    rw [nh] at hd
    have := hd.2 p hp
    rw [(iO hK).2 ⟨h1, h3, h2⟩] at this; cases this
   | some x =>
    obtain ⟨m1, m2, m3⟩ := xY hd
    obtain ⟨k1, k2, k3⟩ := (iO hK).1 m2
    have g1 := m3 p hp ((iO hK).2 ⟨h1, h3, h2⟩)
    have g2 := hm x.2 m1 k1 k3 k2
    have : p = x.2 := one hp m1 h1 k1 h2 k3 (by omega)
    exact ⟨x.1, by rw [this]⟩
  obtain ⟨i0, hi0⟩ := found [] pz hpz hzh hzu (ne0 pz hpz) fun p hp h1 h2 _ => hmax p hp h1 h2
  rw [hi0]
  unfold mg
  dsimp only
  by_cases h6 : (q.type == 6) = true
  . rw [if_pos h6, h6, Bool.true_and]
    by_cases hap : (pz.zone.apex == q.name) = true
    . rw [if_pos hap]
      have hap' : pz.zone.apex = q.name := by simpa using hap
      cases t with
      | nil =>
       have : iP zs K q.name q.name = none := by
        unfold iP
        rw [nh]
        refine ⟨rfl, fun p hp => ?_⟩
        cases hc : iu K q.name q.name p with
        | false => rfl
        | true =>
         obtain ⟨h1, h2, h3⟩ := (iO hK).1 hc
         have := (hmem p.zone).2 ⟨p, hp, h1, h3, rfl⟩
         simp only [List.mem_singleton] at this
         exact absurd (by rw [this]; exact hap') h2
       rw [this]; rfl
      | cons y t =>
       obtain ⟨py, hpy, hyh, hyu, rfl⟩ := (hmem y).1 (by simp)
       have hne : py.zone.apex ≠ q.name := by
        cases hpair with | cons g1 g2 =>
        have := g1 py.zone (List.mem_cons_self ..)
        rw [hap'] at this
        exact Ne.symm this
       have hsrt2 : ∀ y' ∈ t, iB y'.apex <= iB py.zone.apex := fun y' hy' => by
        cases hsort with | cons g1 g2 =>
        cases g2 with | cons g3 g4 =>
        have := g3 y' hy'
        unfold hZ at this
        rw [hdep py.zone (by simp), hdep y' (by simp [hy'])] at this
        omega
       obtain ⟨i1, hi1⟩ := found q.name py hpy hyh hyu hne fun p hp h1 h2 h3 => by
        have hm := (hmem p.zone).2 ⟨p, hp, h1, h2, rfl⟩
        rcases List.mem_cons.1 hm with e | hm
        . exact absurd (by rw [e]; exact hap') h3
        . rcases List.mem_cons.1 hm with e | hm
          . unfold kQ; rw [e]; exact Int.le_refl _
          . exact hsrt2 _ hm
       rw [hi1]; rfl
    . rw [if_neg hap]
      have hap' : pz.zone.apex ≠ q.name := by simpa using hap
      obtain ⟨i1, hi1⟩ := found q.name pz hpz hzh hzu hap' fun p hp h1 h2 _ => hmax p hp h1 h2
      rw [hi1]; rfl
  . rw [if_neg h6]
    have : (q.type == 6) = false := by simpa using h6
    rw [this, Bool.false_and]; rfl
end NP

set_option maxRecDepth 100000
namespace NP
open NQ Go
def eU (l : List ai) : List Bs := l.foldl (fun out p => if out.contains p.zone.apex = true then out else out ++ [p.zone.apex]) []
theorem rH (l : List ai) (p : ai) : eU (l ++ [p]) = if (eU l).contains p.zone.apex = true then eU l else eU l ++ [p.zone.apex] := by unfold eU; rw [List.foldl_append]; rfl
theorem Bb (l : List ai) : (eU l).length <= l.length := by
 have key : ∀ (l : List ai) (out : List Bs), (l.foldl (fun out p => if out.contains p.zone.apex = true then out else out ++ [p.zone.apex]) out).length <= out.length + l.length := fun l => by
  induction l with
  | nil => intro out; simp
  | cons p t ih =>
   intro out
   refine Nat.le_trans (ih _) ?_
   dsimp only
   split <;> simp <;> omega
 have := key l []
 rw [List.length_nil, Nat.zero_add] at this
 exact this
theorem uz (a : Bs) (v : D) : ∀ m : List (Bs × D), (db a v m).map (·.1) = if (m.map (·.1)).contains a = true then m.map (·.1) else m.map (·.1) ++ [a]
 | [] => by simp [db]
 | (b, x) :: t => by
  show (if a = b then _ else _ :: db a v t).map (·.1) = _
  by_cases h : a = b
  . subst h; simp
  . rw [if_neg h]
    simp only [List.map_cons, List.contains_cons]
    rw [uz a v t]
    have : (a == b) = false := by simpa using h
    rw [this, Bool.false_or]
    split <;> simp
theorem Ez (l : List ai) : (apx l).map (·.1) = eU l := by
 have key : ∀ (l : List ai) (m : List (Bs × D)), (l.foldl (fun m p => db p.zone.apex (.bool true) m) m).map (·.1) = l.foldl (fun out p => if out.contains p.zone.apex = true then out else out ++ [p.zone.apex]) (m.map (·.1)) := fun l => by
  induction l with
  | nil => intro m; rfl
  | cons p t ih => intro m; simp only [List.foldl_cons]; rw [ih, uz]
 exact key l []
theorem GZ (l : List ai) : (apx l).length = (eU l).length := by rw [<- Ez, List.length_map]
def kM (w : bt) : Bool := (w.zones.take 21).all (fun p => dj p.zone && decide (p.zone.apex.length <= 100)) && (w.hosts.take 71).all (fun h => decide (h.name.length <= 100)) && decide ((w.zones.length : Int) <= 20) && decide ((w.hosts.length : Int) <= 70) && decide ((w.hints.length : Int) <= 20) && decide ((w.anchor.data.length : Int) <= 20)
theorem Fj {w : bt} (h : kM w = true) : mA w /\ w.hosts.length <= 70 /\ w.zones.length <= 20 /\ w.hints.length <= 20 := by
 unfold kM at h
 simp only [Bool.and_eq_true, decide_eq_true_eq, List.all_eq_true] at h
 obtain ⟨⟨⟨⟨⟨h1, h2⟩, h3⟩, h4⟩, h5⟩, h6⟩ := h
 have : w.zones.take 21 = w.zones := List.take_of_length_le (by omega)
 rw [this] at h1
 exact ⟨⟨by omega, by omega, by omega, fun p hp => (h1 p hp).1⟩, by omega, by omega, by omega⟩
end NP
namespace Go.Proofs.YtnbnldnfkikakaaGreatDoor
open NQ Go NP Go.RowKit
theorem Dr (l : List jA) (hl : l.length <= 100000) : NQ.Fn cx 56 [.slice 3 (l.map dL)] (.d (.bool (jt l))) [] := by
 refine ar aB mixed Tryz.func56 (by kernel_rfl) rfl (Nat.le_of_ble_eq_true rfl) ?_; conv => whnf
 rw [List.length_map]
 refine ab (fun h => ?_) (fun h => ?_) <;> (rw [h]; conv => whnf)
 . refine ae rfl ?_
   show AV.d (D.bool _) = AV.d (D.bool _)
   congr 2
   unfold jt
   simp at h
   simp; omega
 have hle : jt l = gS [] l := by unfold jt; simp at h; simp; omega
 rw [hle]
 refine ⟨Nat, fun k => ⟨[(0, .d (.slice 3 (l.map dL))), (3, .d (.int .i64 k))], []⟩, fun k => k <= l.length /\ gS ((l.take k).map (·.addr)) (l.drop k) = gS [] l, fun k => l.length - k,
  ⟨0, ⟨Nat.zero_le _, rfl⟩, ah.keep ⟨⟨rfl, rfl⟩, ⟨rfl, rfl⟩, trivial⟩ trivial⟩, fun k ⟨hk, hinv⟩ => ?_⟩
 conv => whnf
 refine ab (fun h1 => ?_) (fun h1 => ?_) <;> (rw [h1]; conv => whnf)
 . have hlt : k < l.length := by simpa using h1
   obtain ⟨x, hx⟩ : ∃ x, l[k]? = some x := ⟨_, List.getElem?_eq_getElem hlt⟩
   rw [tT hx] at hinv
   refine ⟨Int.natCast_nonneg k, dL x, ay hx, ?_⟩
   conv => whnf
   (refine ⟨_, _, lz x.name, ?_⟩; conv => whnf)
   cases hv : af x.name with
   | false =>
    conv => whnf
    refine ae rfl ?_
    rw [<- hinv, hv]; rfl
   | true =>
    conv => whnf
    (refine ⟨_, _, xo x.name hv, ?_⟩; conv => whnf)
    rw [hv, Gy hv] at hinv
    repeat' (first | (refine ab (fun h => ?_) (fun h => ?_) <;> (rw [h]; conv => whnf)) | fail)
    all_goals first
     | (refine ae rfl ?_; show AV.d (D.bool false) = AV.d (D.bool _); rw [<- hinv]; clear hinv hle; unfold dJ; simp_all; done)
     | skip
    all_goals first
     | (refine ae rfl ?_; show AV.d (D.bool false) = AV.d (D.bool _); rw [<- hinv]; clear hinv hle; unfold dJ; simp_all; omega)
     | skip
    refine ⟨Nat, fun j => ⟨[(0, .d (.slice 3 (l.map dL))), (3, .d (.int .i64 k)), (4, .ptr 4 0), (6, .d (.int .i64 j))], [(4, .box ((dL x).map .d))]⟩, fun j => j <= k /\ ((l.take j).map (·.addr)).contains x.addr = false, fun j => k - j,
     ⟨0, ⟨Nat.zero_le _, rfl⟩, ah.keep ⟨⟨rfl, rfl⟩, ⟨rfl, rfl⟩, ⟨rfl, rfl⟩, ⟨rfl, rfl⟩, trivial⟩ ⟨⟨rfl, rfl⟩, trivial⟩⟩, fun j ⟨hj, hno⟩ => ?_⟩
    conv => whnf
    refine ab (fun h2 => ?_) (fun h2 => ?_) <;> (rw [h2]; conv => whnf)
    . have hjk : j < k := by simpa using h2
      obtain ⟨y, hy⟩ : ∃ y, l[j]? = some y := ⟨_, List.getElem?_eq_getElem (by omega)⟩
      try (refine ⟨(by kernel_rfl : aO _ _ = true), ?_⟩; conv => whnf)
      refine ⟨Int.natCast_nonneg j, dL y, ay hy, ?_⟩
      conv => whnf
      refine ab (fun h3 => ?_) (fun h3 => ?_) <;> (rw [h3]; conv => whnf)
      . refine ae rfl ?_
        show AV.d (D.bool false) = AV.d (D.bool _)
        have : ((l.take k).map (·.addr)).contains x.addr = true := by
         rw [List.contains_iff_mem, List.mem_map]
         exact ⟨y, List.mem_of_getElem? (i := j) (by rw [List.getElem?_take, if_pos hjk]; exact hy), by simpa using h3⟩
        rw [<- hinv, this]; simp
      . refine ⟨j + 1, ⟨hjk, ?_⟩, by (show k - (j + 1) < k - j; omega), ah.keep ⟨⟨rfl, rfl⟩, ⟨rfl, rfl⟩, ⟨rfl, rfl⟩, ⟨ak (by omega), rfl⟩, trivial⟩ ⟨⟨rfl, rfl⟩, trivial⟩⟩
        rw [bw hy, List.map_append]
        have h3' : (x.addr == y.addr) = false := by
         rw [<- Bool.not_eq_true] at h3 ⊢
         intro e; apply h3; simp at e ⊢; exact e.symm
        simp only [List.map_cons, List.map_nil]
        rw [Bool.eq_false_iff] at hno h3' ⊢
        simp only [ne_eq, List.contains_iff_mem, List.mem_append, List.mem_singleton, beq_iff_eq] at hno h3' ⊢
        rintro (e | e)
        . exact hno e
        . exact h3' e
    . obtain rfl : j = k := by simp at h2; omega
      refine ⟨j + 1, ⟨hlt, ?_⟩, by (show l.length - (j + 1) < l.length - j; omega), ah.keep ⟨⟨rfl, rfl⟩, ⟨ak (by omega), rfl⟩, trivial⟩ trivial⟩
      rw [bw hx, List.map_append, <- hinv, hno]
      clear hinv hle
      show _ = (_ && _ && _)
      unfold dJ
      simp_all
      try omega
 . obtain rfl : k = l.length := by simp at h1; omega
   refine ae rfl ?_
   rw [<- hinv, List.drop_length]; rfl
theorem DQ (s : ga) (hints : List Int) (hl : hints.length <= 100000) : NQ.Fn cx 57 [.agg (kV s), .slice 1 (hints.map cn)] (.d (.bool (ln s hints))) [] := by
 refine ar aB mixed Tryz.func57 (by kernel_rfl) rfl (Nat.le_of_ble_eq_true rfl) ?_; conv => whnf
 refine ⟨Nat, fun k => ⟨[(1, .d (.slice 1 (hints.map cn))), (2, .ptr 2 0), (5, .d (.int .i64 k))], [(2, .box ((kV s).map .d))]⟩, fun k => k <= hints.length /\ (hints.take k).all dJ = true, fun k => hints.length - k,
  ⟨0, ⟨Nat.zero_le _, rfl⟩, ah.keep ⟨⟨rfl, rfl⟩, ⟨rfl, rfl⟩, ⟨rfl, rfl⟩, trivial⟩ ⟨⟨rfl, rfl⟩, trivial⟩⟩, fun k ⟨hk, hall⟩ => ?_⟩
 conv => whnf
 refine ab (fun h1 => ?_) (fun h1 => ?_) <;> (rw [h1]; conv => whnf)
 . have hlt : k < hints.length := by simpa using h1
   obtain ⟨x, hx⟩ : ∃ x, hints[k]? = some x := ⟨_, List.getElem?_eq_getElem hlt⟩
   refine ⟨Int.natCast_nonneg k, cn x, ay hx, ?_⟩
   conv => whnf
   have no : dJ x = false -> ln s hints = false := fun hb => by
    have : hints.all dJ = false := by
     rw [<- Bool.not_eq_true, List.all_eq_true]
     intro hh
     rw [hh x (List.mem_of_getElem? hx)] at hb; cases hb
    unfold ln; rw [this]; simp
   refine ab (fun h2 => ?_) (fun h2 => ?_) <;> (rw [h2]; conv => whnf)
   . refine ae rfl ?_
     rw [no (by unfold dJ; simp at h2 ⊢; omega)]; rfl
   . refine ⟨Int.natCast_nonneg k, cn x, ay hx, ?_⟩
     conv => whnf
     refine ab (fun h3 => ?_) (fun h3 => ?_) <;> (rw [h3]; conv => whnf)
     . refine ae rfl ?_
       rw [no (by unfold dJ; simp at h2 h3 ⊢; omega)]; rfl
     . refine ⟨k + 1, ⟨hlt, ?_⟩, by (show hints.length - (k + 1) < hints.length - k; omega), ah.keep ⟨⟨rfl, rfl⟩, ⟨rfl, rfl⟩, ⟨ak (by omega), rfl⟩, trivial⟩ ⟨⟨rfl, rfl⟩, trivial⟩⟩
       rw [bw hx, List.all_append, hall]
       simp at h2 h3
       simp [dJ]; omega
 . obtain rfl : k = hints.length := by simp at h1; omega
   rw [List.take_length] at hall
   (refine ⟨_, _, y0 s, ?_⟩; conv => whnf)
   repeat' (first | (refine ab (fun h => ?_) (fun h => ?_) <;> (rw [h]; conv => whnf)) | fail)
   all_goals (refine ae rfl ?_; show AV.d (D.bool _) = AV.d (D.bool _); congr 2; (try simp only [List.length_map] at *); unfold ln; rw [hall]; simp only [*, if_true, if_false, Bool.false_eq_true, Bool.not_true, Bool.not_false, Bool.not_not, Bool.true_or, Bool.or_true, Bool.false_or, Bool.or_false, Bool.and_true, Bool.true_and, Bool.false_and, Bool.and_false])
theorem Bc (l : List ai) (hl : l.length <= 100000) : NQ.Fn cx 59 [.slice 3 (l.map aR)] (.d (.slice 1 ((eU l).map aD))) [] := by
 refine ar aB mixed Tryz.func59 (by kernel_rfl) rfl (Nat.le_of_ble_eq_true rfl) ?_; conv => whnf
 refine ⟨Nat, fun k => ⟨[(0, .d (.slice 3 (l.map aR))), (3, .own 100), (4, .d (.int .i64 k))], [(100, .row 9 1 ((eU (l.take k)).map aD))]⟩, fun k => k <= l.length, fun k => l.length - k,
  ⟨0, Nat.zero_le _, (ah.rr 3 100 1 9 1 rfl rfl (by decide)).trans (ah.keep ⟨⟨rfl, rfl⟩, ⟨rfl, rfl⟩, ⟨rfl, rfl⟩, trivial⟩ ⟨⟨rfl, rfl⟩, trivial⟩)⟩, fun k hk => ?_⟩
 conv => whnf
 refine ab (fun h1 => ?_) (fun h1 => ?_) <;> (rw [h1]; conv => whnf)
 . have hlt : k < l.length := by simpa using h1
   obtain ⟨x, hx⟩ : ∃ x, l[k]? = some x := ⟨_, List.getElem?_eq_getElem hlt⟩
   have hal : (eU (l.take k)).length <= k := by have := Bb (l.take k); rw [List.length_take] at this; omega
   generalize hA : eU (l.take k) = A at *
   refine ⟨Nat × Bool, fun j => ⟨[(0, .d (.slice 3 (l.map aR))), (3, .own 100), (4, .d (.int .i64 k)), (5, .d (.bool j.2)), (6, .d (.int .i64 j.1))], [(100, .row 9 1 (A.map aD))]⟩, fun j => j.1 <= A.length /\ j.2 = (A.take j.1).contains x.zone.apex, fun j => A.length - j.1,
    ⟨(0, false), ⟨Nat.zero_le _, rfl⟩, ah.keep ⟨⟨rfl, rfl⟩, ⟨rfl, rfl⟩, ⟨rfl, rfl⟩, ⟨rfl, rfl⟩, ⟨rfl, rfl⟩, trivial⟩ ⟨⟨by rw [<- hA]; rfl, rfl⟩, trivial⟩⟩, fun ⟨j, f⟩ ⟨hj, hf⟩ => ?_⟩
   dsimp only at hj hf ⊢
   conv => whnf
   refine ab (fun h2 => ?_) (fun h2 => ?_) <;> (rw [h2]; conv => whnf)
   . have hjl : j < A.length := by simpa using h2
     obtain ⟨y, hy⟩ : ∃ y, A[j]? = some y := ⟨_, List.getElem?_eq_getElem hjl⟩
     (refine ⟨(by kernel_rfl : aO _ _ = true), ?_⟩; conv => whnf)
     refine ab (fun h3 => ?_) (fun h3 => ?_) <;> (rw [h3]; conv => whnf)
     . refine ⟨(j + 1, true), ⟨hjl, ?_⟩, by (show A.length - (j + 1) < A.length - j; omega), ah.keep ⟨⟨rfl, rfl⟩, ⟨rfl, rfl⟩, ⟨rfl, rfl⟩, ⟨rfl, rfl⟩, ⟨ak (by omega), rfl⟩, trivial⟩ ⟨⟨rfl, rfl⟩, trivial⟩⟩
       dsimp only
       rw [bw hy, List.contains_append, <- hf, h3]; rfl
     . refine ⟨Int.natCast_nonneg j, by (show j < (A.map aD).length; rw [List.length_map]; exact hjl), ?_⟩
       conv => whnf
       refine ⟨aD y, ay hy, ?_⟩
       conv => whnf
       refine ⟨Int.natCast_nonneg k, aR x, ay hx, ?_⟩
       conv => whnf
       refine ⟨(j + 1, y == x.zone.apex), ⟨hjl, ?_⟩, by (show A.length - (j + 1) < A.length - j; omega), ah.keep ⟨⟨rfl, rfl⟩, ⟨rfl, rfl⟩, ⟨rfl, rfl⟩, ⟨rfl, rfl⟩, ⟨ak (by omega), rfl⟩, trivial⟩ ⟨⟨rfl, rfl⟩, trivial⟩⟩
       dsimp only
       rw [bw hy, List.contains_append, <- hf, h3, Bool.false_or]
       simp only [List.contains_cons, List.contains_nil, Bool.or_false]
       exact Bool.eq_iff_iff.2 ⟨fun h => by simp at h ⊢; exact h.symm, fun h => by simp at h ⊢; exact h.symm⟩
   . obtain rfl : j = A.length := by simp at h2; omega
     rw [List.take_length] at hf
     refine ab (fun h3 => ?_) (fun h3 => ?_) <;> (rw [h3]; conv => whnf)
     . have hc : A.contains x.zone.apex = false := by rw [<- hf]; simpa using h3
       refine ⟨Int.natCast_nonneg k, aR x, ay hx, ?_⟩
       conv => whnf
       refine ⟨by (show (A.map aD).length + 1 <= _); simp; omega, by (show ((A.map aD).length + 1) * 16 <= _); simp; omega, ?_⟩
       conv => whnf
       refine ⟨k + 1, hlt, by (show l.length - (k + 1) < l.length - k; omega), ah.keep ⟨⟨rfl, rfl⟩, ⟨rfl, rfl⟩, ⟨ak (by omega), rfl⟩, trivial⟩ ⟨⟨?_, rfl⟩, trivial⟩⟩
       rw [bw hx, rH, hA, if_neg (by rw [hc]; simp), List.map_append]; rfl
     . have hc : A.contains x.zone.apex = true := by rw [<- hf]; simpa using h3
       refine ⟨k + 1, hlt, by (show l.length - (k + 1) < l.length - k; omega), ah.keep ⟨⟨rfl, rfl⟩, ⟨rfl, rfl⟩, ⟨ak (by omega), rfl⟩, trivial⟩ ⟨⟨?_, rfl⟩, trivial⟩⟩
       rw [bw hx, rH, hA, if_pos hc]; rfl
 . obtain rfl : k = l.length := by simp at h1; omega
   refine ae rfl ?_
   rw [List.take_length]; rfl
end Go.Proofs.YtnbnldnfkikakaaGreatDoor

set_option maxRecDepth 100000
namespace Go.Proofs.YtnbnldnfkikakaaGreatDoor
open NQ Go NP Go.RowKit
set_option maxHeartbeats 2000000 in
theorem Eg (w : bt) (h1 : w.hosts.length <= 100000) (h2 : w.zones.length <= 100000) (h3 : w.hints.length <= 100000) (h4 : ∀ p ∈ w.zones, p.zone.sets.length <= 100000) : NQ.Fn cx 20 [.agg (bH w)] (.d (.bool (bC w))) [] := by
 refine ar aB mixed Tryz.func20 (by kernel_rfl) rfl (Nat.le_of_ble_eq_true rfl) ?_; conv => whnf
 (refine ⟨_, _, Dr w.hosts h1, ?_⟩; conv => whnf)
 cases e1 : jt w.hosts with
 | false =>
  conv => whnf
  refine ae rfl ?_
  have : bC w = false := by unfold bC; rw [e1]; rfl
  rw [this]; rfl
 | true =>
 conv => whnf
 refine ab (fun g0 => ?_) (fun g0 => ?_) <;> (rw [g0]; conv => whnf)
 . refine ae rfl ?_
   have : bC w = false := by
    have e3 : decide ((w.zones.length : Int) <= 4000) = false := by
     have := of_decide_eq_true g0
     rw [List.length_map] at this
     exact decide_eq_false (by omega)
    unfold bC iN; rw [e3]; simp
   rw [this]; rfl
 (refine ⟨_, _, DQ w.anchor w.hints h3, ?_⟩; conv => whnf)
 cases e2 : ln w.anchor w.hints with
 | false =>
  conv => whnf
  refine ae rfl ?_
  have : bC w = false := by unfold bC; rw [e2]; simp
  rw [this]; rfl
 | true =>
 conv => whnf
 have hyes : bC w = (de w.hosts.length [] w.zones && decide (((apx w.zones).length : Int) <= 500)) := by
  have e3 : (w.zones.length : Int) <= 4000 := by
   have := of_decide_eq_false g0
   rw [List.length_map] at this
   omega
  unfold bC iN
  rw [e1, e2, decide_eq_true e3]; simp
 refine ⟨Nat, fun k => ⟨[(1, .ptr 1 0), (3, .d (.int .i64 k))], [(1, .box ((bH w).map .d))]⟩, fun k => k <= w.zones.length /\ de w.hosts.length (w.zones.take k) (w.zones.drop k) = de w.hosts.length [] w.zones, fun k => w.zones.length - k,
  ⟨0, ⟨Nat.zero_le _, rfl⟩, ah.keep ⟨⟨rfl, rfl⟩, ⟨rfl, rfl⟩, trivial⟩ ⟨⟨rfl, rfl⟩, trivial⟩⟩, fun k ⟨hk, hinv⟩ => ?_⟩
 conv => whnf
 refine ab (fun g1 => ?_) (fun g1 => ?_) <;> (rw [g1]; conv => whnf)
 . have hlt : k < w.zones.length := by simpa using g1
   obtain ⟨x, hx⟩ : ∃ x, w.zones[k]? = some x := ⟨_, List.getElem?_eq_getElem hlt⟩
   rw [rM hx] at hinv
   refine ⟨Int.natCast_nonneg k, aR x, ay hx, ?_⟩
   conv => whnf
   (refine ⟨_, _, wj x.zone (h4 x (List.mem_of_getElem? hx)), ?_⟩; conv => whnf)
   have bad : (decide (x.host < 0) || decide (x.host >= (w.hosts.length : Int)) || (w.zones.take k).any (cF x) || !aQ x.zone) = true -> bC w = false := fun hb => by
    rw [hyes, <- hinv, hb]; rfl
   refine ab (fun g2 => ?_) (fun g2 => ?_) <;> (rw [g2]; conv => whnf)
   . refine ae rfl ?_
     rw [bad (by simp_all)]; rfl
   refine ab (fun g3 => ?_) (fun g3 => ?_) <;> (rw [g3]; conv => whnf)
   . refine ae rfl ?_
     rw [bad (by simp_all)]; rfl
   refine ab (fun g4 => ?_) (fun g4 => ?_) <;> (rw [g4]; conv => whnf)
   . refine ae rfl ?_
     rw [bad (by (try simp only [List.length_map] at *); simp_all)]; rfl
   refine ⟨Nat, fun j => ⟨[(1, .ptr 1 0), (3, .d (.int .i64 k)), (4, .ptr 4 0), (6, .d (.int .i64 j))], [(1, .box ((bH w).map .d)), (4, .box ((aR x).map .d))]⟩, fun j => j <= k /\ (w.zones.take j).any (cF x) = false, fun j => k - j,
    ⟨0, ⟨Nat.zero_le _, rfl⟩, ah.keep ⟨⟨rfl, rfl⟩, ⟨rfl, rfl⟩, ⟨rfl, rfl⟩, ⟨rfl, rfl⟩, trivial⟩ ⟨⟨rfl, rfl⟩, ⟨rfl, rfl⟩, trivial⟩⟩, fun j ⟨hj, hno⟩ => ?_⟩
   conv => whnf
   refine ab (fun g5 => ?_) (fun g5 => ?_) <;> (rw [g5]; conv => whnf)
   . have hjk : j < k := by simpa using g5
     obtain ⟨y, hy⟩ : ∃ y, w.zones[j]? = some y := ⟨_, List.getElem?_eq_getElem (by omega)⟩
     (refine ⟨(by kernel_rfl : aO _ _ = true), ?_⟩; conv => whnf)
     refine ⟨Int.natCast_nonneg j, aR y, ay hy, ?_⟩
     conv => whnf
     have next : cF x y = false -> j + 1 <= k /\ (w.zones.take (j + 1)).any (cF x) = false := fun hs => ⟨hjk, by rw [bw hy, List.any_append, hno]; simp [hs]⟩
     refine ab (fun g6 => ?_) (fun g6 => ?_) <;> (rw [g6]; conv => whnf)
     . refine ⟨Int.natCast_nonneg j, aR y, ay hy, ?_⟩
       conv => whnf
       refine ab (fun g7 => ?_) (fun g7 => ?_) <;> (rw [g7]; conv => whnf)
       . refine ae rfl ?_
         have : (w.zones.take k).any (cF x) = true := by
          rw [List.any_eq_true]
          refine ⟨y, List.mem_of_getElem? (i := j) (by rw [List.getElem?_take, if_pos hjk]; exact hy), ?_⟩
          simp at g6 g7
          simp [cF, g6, g7]
         rw [bad (by rw [this]; simp)]; rfl
       . exact ⟨j + 1, next (by unfold cF; simp at g7; rw [Bool.and_eq_false_iff]; right; simp; exact fun e => g7 e.symm), by (show k - (j + 1) < k - j; omega), ah.keep ⟨⟨rfl, rfl⟩, ⟨rfl, rfl⟩, ⟨rfl, rfl⟩, ⟨ak (by omega), rfl⟩, trivial⟩ ⟨⟨rfl, rfl⟩, ⟨rfl, rfl⟩, trivial⟩⟩
     . exact ⟨j + 1, next (by unfold cF; simp at g6; rw [Bool.and_eq_false_iff]; left; simp; exact fun e => g6 e.symm), by (show k - (j + 1) < k - j; omega), ah.keep ⟨⟨rfl, rfl⟩, ⟨rfl, rfl⟩, ⟨rfl, rfl⟩, ⟨ak (by omega), rfl⟩, trivial⟩ ⟨⟨rfl, rfl⟩, ⟨rfl, rfl⟩, trivial⟩⟩
   . obtain rfl : j = k := by simp at g5; omega
     refine ⟨j + 1, ⟨hlt, ?_⟩, by (show w.zones.length - (j + 1) < w.zones.length - j; omega), ah.keep ⟨⟨rfl, rfl⟩, ⟨ak (by omega), rfl⟩, trivial⟩ ⟨⟨rfl, rfl⟩, trivial⟩⟩
     rw [bw hx, <- hinv]
     clear hinv hyes bad
     have e1 : decide (x.host < 0) = false := g3
     have e2 : decide (x.host >= (w.hosts.length : Int)) = false := by (try simp only [List.length_map] at g4); exact g4
     have e3 : (!aQ x.zone) = false := g2
     rw [e1, e2, e3, hno]; simp
 . obtain rfl : k = w.zones.length := by simp at g1; omega
   (refine ⟨_, _, Bc w.zones h2, ?_⟩; conv => whnf)
   refine ae rfl ?_
   show AV.d (D.bool _) = AV.d (D.bool _)
   congr 2
   rw [List.drop_length] at hinv
   rw [hyes, <- hinv, GZ]
   simp [de]
def BB : Nat -> List Nat := fun | 7 => [55555] | 12 => [55555] | _ => []
theorem vF (w : bt) (hz : (w.zones.take 21).all (fun p => dj p.zone && decide (p.zone.apex.length <= 100)) = true) (hh : (w.hosts.take 71).all (fun h => decide (h.name.length <= 100)) = true) (st : St) (hs : ah cx st ⟨[(1, .ptr 1 0)], [(1, .box ((bH w).map .d))]⟩) :
 vc cx Tryz.f11.ntmps BB (pf 3 ((Tryz.f11.body).getD .skip)) (fnQ cx Tryz.f11.results.toList (.d (.bool (kM w))) []) st := by
 conv => whnf
 refine ⟨_, hs, ?_⟩
 conv => whnf
 have e : kM w = (decide ((w.zones.length : Int) <= 20) && decide ((w.hosts.length : Int) <= 70) && decide ((w.hints.length : Int) <= 20) && decide ((w.anchor.data.length : Int) <= 20)) := by
  unfold kM; rw [hz, hh]; rfl
 repeat' (first | (refine ab (fun h => ?_) (fun h => ?_) <;> (rw [h]; conv => whnf)) | fail)
 all_goals (refine ae rfl ?_; show AV.d (D.bool _) = AV.d (D.bool _); congr 2; (try simp only [List.length_map] at *); rw [e]; simp only [*, if_true, if_false, Bool.false_eq_true, Bool.not_true, Bool.not_false, Bool.not_not, Bool.true_or, Bool.or_true, Bool.false_or, Bool.or_false, Bool.and_true, Bool.true_and, Bool.false_and, Bool.and_false])
theorem x6 (w : bt) (hz : (w.zones.take 21).all (fun p => dj p.zone && decide (p.zone.apex.length <= 100)) = true) (st : St) (hs : ah cx st ⟨[(1, .ptr 1 0)], [(1, .box ((bH w).map .d))]⟩) :
 vc cx Tryz.f11.ntmps BB (pf 2 ((Tryz.f11.body).getD .skip)) (fnQ cx Tryz.f11.results.toList (.d (.bool (kM w))) []) st := by
 conv => whnf
 refine ⟨_, hs, ?_⟩
 conv => whnf
 refine ⟨Nat, fun k => ⟨[(1, .ptr 1 0), (5, .d (.int .i64 k))], [(1, .box ((bH w).map .d))]⟩, fun k => k <= w.hosts.length /\ k <= 71 /\ (w.hosts.take k).all (fun h => decide (h.name.length <= 100)) = true, fun k => w.hosts.length - k,
  ⟨0, ⟨Nat.zero_le _, Nat.zero_le _, rfl⟩, ah.keep ⟨⟨rfl, rfl⟩, ⟨rfl, rfl⟩, trivial⟩ ⟨⟨rfl, rfl⟩, trivial⟩⟩, fun k ⟨hk, hk2, hall⟩ => ?_⟩
 conv => whnf
 refine ab (fun g1 => ?_) (fun g1 => ?_) <;> (rw [g1]; conv => whnf)
 . have hlt : k < w.hosts.length := by simpa using g1
   obtain ⟨x, hx⟩ : ∃ x, w.hosts[k]? = some x := ⟨_, List.getElem?_eq_getElem hlt⟩
   refine ab (fun g2 => ?_) (fun g2 => ?_) <;> (rw [g2]; conv => whnf)
   . have hk3 : k < 71 := by simp at g2; omega
     refine ⟨Int.natCast_nonneg k, dL x, ay hx, ?_⟩
     conv => whnf
     refine ab (fun g4 => ?_) (fun g4 => ?_) <;> (rw [g4]; conv => whnf)
     . refine ae rfl ?_
       have : (w.hosts.take 71).all (fun h => decide (h.name.length <= 100)) = false := by
        rw [<- Bool.not_eq_true, List.all_eq_true]
        intro h
        have := h x (List.mem_of_getElem? (i := k) (by rw [List.getElem?_take, if_pos hk3]; exact hx))
        simp at g4 this; omega
       have : kM w = false := by unfold kM; rw [this]; simp
       rw [this]; rfl
     . refine ⟨k + 1, ⟨hlt, by omega, ?_⟩, by (show w.hosts.length - (k + 1) < w.hosts.length - k; omega), ah.keep ⟨⟨rfl, rfl⟩, ⟨ak (by omega), rfl⟩, trivial⟩ ⟨⟨rfl, rfl⟩, trivial⟩⟩
       rw [bw hx, List.all_append, hall]
       simp at g4
       simp; omega
   . have : k = 71 := by simp at g2; omega
     subst this
     exact vF w hz hall _ (ah.keep ⟨⟨rfl, rfl⟩, trivial⟩ ⟨⟨rfl, rfl⟩, trivial⟩)
 . obtain rfl : k = w.hosts.length := by simp at g1; omega
   exact vF w hz (by rw [List.take_length] at hall; rw [List.take_of_length_le hk2]; exact hall) _ (ah.keep ⟨⟨rfl, rfl⟩, trivial⟩ ⟨⟨rfl, rfl⟩, trivial⟩)
theorem Hh (w : bt) : NQ.Fn cx 11 [.agg (bH w)] (.d (.bool (kM w))) [] := by
 refine cM BB aB mixed Tryz.func11 (by kernel_rfl) rfl (Nat.le_of_ble_eq_true rfl) ?_
 conv => whnf
 refine ⟨Nat, fun k => ⟨[(1, .ptr 1 0), (3, .d (.int .i64 k))], [(1, .box ((bH w).map .d))]⟩, fun k => k <= w.zones.length /\ k <= 21 /\ (w.zones.take k).all (fun p => dj p.zone && decide (p.zone.apex.length <= 100)) = true, fun k => w.zones.length - k,
  ⟨0, ⟨Nat.zero_le _, Nat.zero_le _, rfl⟩, ah.keep ⟨⟨rfl, rfl⟩, ⟨rfl, rfl⟩, trivial⟩ ⟨⟨rfl, rfl⟩, trivial⟩⟩, fun k ⟨hk, hk2, hall⟩ => ?_⟩
 conv => whnf
 have no : ∀ p, w.zones[k]? = some p -> k < 21 -> (dj p.zone && decide (p.zone.apex.length <= 100)) = false -> kM w = false := fun p hp hk hb => by
  have : (w.zones.take 21).all (fun p => dj p.zone && decide (p.zone.apex.length <= 100)) = false := by
   rw [<- Bool.not_eq_true, List.all_eq_true]
   intro h
   rw [h p (List.mem_of_getElem? (i := k) (by rw [List.getElem?_take, if_pos hk]; exact hp))] at hb; cases hb
  unfold kM; rw [this]; simp
 refine ab (fun g1 => ?_) (fun g1 => ?_) <;> (rw [g1]; conv => whnf)
 . have hlt : k < w.zones.length := by simpa using g1
   obtain ⟨x, hx⟩ : ∃ x, w.zones[k]? = some x := ⟨_, List.getElem?_eq_getElem hlt⟩
   refine ab (fun g2 => ?_) (fun g2 => ?_) <;> (rw [g2]; conv => whnf)
   . have hk3 : k < 21 := by simp at g2; omega
     refine ⟨Int.natCast_nonneg k, aR x, ay hx, ?_⟩
     conv => whnf
     (refine ⟨_, _, IK x.zone, ?_⟩; conv => whnf)
     refine ab (fun g3 => ?_) (fun g3 => ?_) <;> (rw [g3]; conv => whnf)
     . refine ae rfl ?_
       rw [no x hx hk3 (by simp_all)]; rfl
     refine ⟨Int.natCast_nonneg k, aR x, ay hx, ?_⟩
     conv => whnf
     refine ab (fun g4 => ?_) (fun g4 => ?_) <;> (rw [g4]; conv => whnf)
     . refine ae rfl ?_
       rw [no x hx hk3 (by simp at g4; simp; omega)]; rfl
     . refine ⟨k + 1, ⟨hlt, by omega, ?_⟩, by (show w.zones.length - (k + 1) < w.zones.length - k; omega), ah.keep ⟨⟨rfl, rfl⟩, ⟨ak (by omega), rfl⟩, trivial⟩ ⟨⟨rfl, rfl⟩, trivial⟩⟩
       rw [bw hx, List.all_append, hall]
       simp at g3 g4
       simp [g3]; omega
   . have : k = 21 := by simp at g2; omega
     subst this
     exact x6 w hall _ (ah.keep ⟨⟨rfl, rfl⟩, trivial⟩ ⟨⟨rfl, rfl⟩, trivial⟩)
 . obtain rfl : k = w.zones.length := by simp at g1; omega
   exact x6 w (by rw [List.take_length] at hall; rw [List.take_of_length_le hk2]; exact hall) _ (ah.keep ⟨⟨rfl, rfl⟩, trivial⟩ ⟨⟨rfl, rfl⟩, trivial⟩)
end Go.Proofs.YtnbnldnfkikakaaGreatDoor

set_option maxRecDepth 100000
namespace NP
open NQ Go
theorem Ck {zs : List ai} {K : Int} {q : ax} {x : Nat × ai} (hK : 0 <= K) (h : oo zs K q = some x) : zs[x.1]? = some x.2 /\ x.2 ∈ zs /\ x.2.host = K /\ ao q.name x.2.zone.apex = true := by
 have key : ∀ nt, iP zs K q.name nt = some x -> zs[x.1]? = some x.2 /\ x.2 ∈ zs /\ x.2.host = K /\ ao q.name x.2.zone.apex = true := fun nt hd => by
  obtain ⟨h1, h2, _⟩ := xY hd
  obtain ⟨k1, _, k3⟩ := (iO hK).1 h2
  exact ⟨E7 _ _ _ _ x hd, h1, k1, k3⟩
 unfold oo at h
 split at h
 . rename_i y hy
   cases h
   split at hy
   . exact key _ hy
   . cases hy
 . exact key _ h
theorem Ey {z : aq} {q : ax} (u : Use z q) : (bg z q).2 = 0 := by rw [u.ans]
theorem CS {w : bt} {q : ax} (hval : bC w = true) (hF : mA w) (hq : aP q = true) {K : Int} (hK : 0 <= K) :
 (match mg q (dy hZ (bP w.zones K q)) with | none => ((⟨7, [], []⟩ : Ans), (0 : Int)) | some z => bg z q) = (yZ w.zones K q, 0) := by
 have hg := mZ hval
 have hA : w5 w.zones := ⟨fun p hp => (aS (hg p hp).1).apex, Ah hval⟩
 rw [B9 hA hK (Ca hq)]
 unfold yZ
 cases h : oo w.zones K q with
 | none => rfl
 | some x =>
  obtain ⟨h1, h2, h3, h4⟩ := Ck hK h
  have u : Use x.2.zone q := ⟨hF.few _ h2, (hg _ h2).1, hq, h4⟩
  exact Prod.ext rfl (Ey u)
end NP
namespace Go.Proofs.YtnbnldnfkikakaaGreatDoor
open NQ Go NP Go.RowKit
theorem Ig (z : aq) (q : ax) (hf : dj z = true) : NQ.Fn cx 75 [.agg (aA z), .agg (bA q)] (.tuple [.agg ((cR (bg z q).1).map .d), .d (.int .i64 (bg z q).2)]) [] := Ie hf q ▸ Cb z q hf
end Go.Proofs.YtnbnldnfkikakaaGreatDoor

set_option maxRecDepth 100000
namespace NP
open NQ Go
theorem zU {p q : ai} (hp : aQ p.zone = true) (hq : aQ q.zone = true) : eL p q = (decide (gC p.zone > gC q.zone) || (decide (gC p.zone = gC q.zone) && decide (p.host < q.host))) := by
 unfold eL eH; rw [hp, hq]; rfl
theorem y9 (zs : List ai) (q : ax) (f : Nat) (a : Bs) : gX zs (dU zs) q (f + 1) a = match l0 zs a with
 | none => (dX, false)
 | some x => if ((bg x.2.zone q).1.kind != 4) = true then ((bg x.2.zone q).1, true) else gX zs (dU zs) q f (bg x.2.zone q).1.cut := by
 rw [gX, wA]
 cases h : l0 zs a with
 | none => rfl
 | some x =>
  simp only [Option.map_some]
  rw [xQ zs a x h]
end NP
namespace Go.Proofs.YtnbnldnfkikakaaGreatDoor
open NQ Go NP Go.RowKit
theorem xR (zs : List ai) (a : Bs) (hz : ∀ p ∈ zs, aQ p.zone = true) (hl : zs.length <= 100000) : NQ.Fn cx 29 [.slice 3 (zs.map aR), .str a] (.d (.int .i64 (FZ (l0 zs a)))) [] := by
 refine ar aB mixed Tryz.func29 (by kernel_rfl) rfl (Nat.le_of_ble_eq_true rfl) ?_; conv => whnf
 refine ⟨Nat × Option (Nat × ai), fun x => ⟨[(0, .d (.slice 3 (zs.map aR))), (1, .d (.str a)), (5, .d (.int .i64 (FZ x.2))), (6, .d (.int .i64 x.1))], []⟩,
  fun x => x.1 <= zs.length /\ jl zs x.2 /\ eJ (fun p => p.zone.apex == a) eL x.1 (zs.drop x.1) x.2 = l0 zs a, fun x => zs.length - x.1,
  ⟨(0, none), ⟨Nat.zero_le _, (fun x hx => by cases hx), rfl⟩, ah.keep ⟨⟨rfl, rfl⟩, ⟨rfl, rfl⟩, ⟨rfl, rfl⟩, ⟨rfl, rfl⟩, trivial⟩ trivial⟩, fun ⟨k, b⟩ ⟨hk, hb, hinv⟩ => ?_⟩
 dsimp only at hk hb hinv ⊢
 conv => whnf
 refine ab (fun h1 => ?_) (fun h1 => ?_) <;> (rw [h1]; conv => whnf)
 . have hlt : k < zs.length := by simpa using h1
   obtain ⟨p, hp⟩ : ∃ p, zs[k]? = some p := ⟨_, List.getElem?_eq_getElem hlt⟩
   have hpv := hz p (List.mem_of_getElem? hp)
   rw [CV hp] at hinv
   have next : ∀ b', b' = b5 (fun p => p.zone.apex == a) eL k p b -> (k + 1 <= zs.length /\ jl zs b' /\ eJ (fun p => p.zone.apex == a) eL (k + 1) (zs.drop (k + 1)) b' = l0 zs a) := fun b' e => by
    rw [e]; exact ⟨hlt, hb.step hp, hinv⟩
   refine ⟨Int.natCast_nonneg k, aR p, ay hp, ?_⟩
   conv => whnf
   refine ab (fun h2 => ?_) (fun h2 => ?_) <;> (rw [h2]; conv => whnf)
   . exact ⟨(k + 1, b), next _ (by unfold b5; rw [if_neg (by simpa using h2)]), by (show zs.length - (k + 1) < zs.length - k; omega), ah.keep ⟨⟨rfl, rfl⟩, ⟨rfl, rfl⟩, ⟨rfl, rfl⟩, ⟨ak (by omega), rfl⟩, trivial⟩ trivial⟩
   have ha : (p.zone.apex == a) = true := by simpa using h2
   cases b with
   | none =>
    conv => whnf
    exact ⟨(k + 1, some (k, p)), next _ (by unfold b5; rw [if_pos ha]), by (show zs.length - (k + 1) < zs.length - k; omega), ah.keep ⟨⟨rfl, rfl⟩, ⟨rfl, rfl⟩, ⟨rfl, rfl⟩, ⟨ak (by omega), rfl⟩, trivial⟩ trivial⟩
   | some x =>
    have hx := hb x rfl
    have hxv := hz x.2 (List.mem_of_getElem? hx)
    have hnew := zU hpv hxv
    conv => whnf
    refine ⟨Int.natCast_nonneg k, aR p, ay hp, ?_⟩
    conv => whnf
    (refine ⟨_, _, si p.zone hpv, ?_⟩; conv => whnf)
    refine ⟨Int.natCast_nonneg x.1, aR x.2, ay hx, ?_⟩
    conv => whnf
    (refine ⟨_, _, si x.2.zone hxv, ?_⟩; conv => whnf)
    (refine ⟨(by kernel_rfl : aO _ _ = true), ?_⟩; conv => whnf)
    repeat' (first
     | (refine ab (fun h => ?_) (fun h => ?_) <;> (rw [h]; conv => whnf))
     | (refine ⟨Int.natCast_nonneg k, aR p, ay hp, ?_⟩; conv => whnf)
     | (refine ⟨Int.natCast_nonneg x.1, aR x.2, ay hx, ?_⟩; conv => whnf)
     | fail)
    all_goals first
     | (refine ⟨(k + 1, some (k, p)), next _ (by unfold b5; rw [if_pos ha]; dsimp only; rw [if_pos (by rw [hnew]; simp_all; done)]), by (show zs.length - (k + 1) < zs.length - k; omega), ah.keep ⟨⟨rfl, rfl⟩, ⟨rfl, rfl⟩, ⟨rfl, rfl⟩, ⟨ak (by omega), rfl⟩, trivial⟩ trivial⟩; done)
     | (refine ⟨(k + 1, some x), next _ (by unfold b5; rw [if_pos ha]; dsimp only; rw [if_neg (by rw [hnew]; simp_all; done)]), by (show zs.length - (k + 1) < zs.length - k; omega), ah.keep ⟨⟨rfl, rfl⟩, ⟨rfl, rfl⟩, ⟨rfl, rfl⟩, ⟨ak (by omega), rfl⟩, trivial⟩ trivial⟩; done)
     | (refine ⟨(k + 1, some x), next _ (by unfold b5; rw [if_pos ha]; dsimp only; rw [if_neg (by rw [hnew]; simp_all; omega)]), by (show zs.length - (k + 1) < zs.length - k; omega), ah.keep ⟨⟨rfl, rfl⟩, ⟨rfl, rfl⟩, ⟨rfl, rfl⟩, ⟨ak (by omega), rfl⟩, trivial⟩ trivial⟩; done)
 . obtain rfl : k = zs.length := by simp at h1; omega
   refine ae rfl ?_
   rw [<- hinv, List.drop_length]; rfl
theorem Jn (zs : List ai) (q : ax) (hg : nf zs) (hq : aP q = true) (hl : zs.length <= 100000) :
 NQ.Fn cx 27 [.slice 3 (zs.map aR), .agg (bA q)] (.tuple [.agg ((cR (cz zs q).1).map .d), .d (.int .i64 (if (cz zs q).2 = true then 0 else 34))]) [] := by
 refine ar aB mixed Tryz.func27 (by kernel_rfl) rfl (Nat.le_of_ble_eq_true rfl) ?_; conv => whnf
 have hz : ∀ p ∈ zs, aQ p.zone = true := fun p hp => (hg p hp).2
 (refine ⟨_, _, xR zs [46] hz hl, ?_⟩; conv => whnf)
 refine ⟨Nat × Bs, fun x => ⟨[(0, .d (.slice 3 (zs.map aR))), (3, .ptr 3 0), (4, .ptr 4 0), (6, .d (.int .i64 (FZ (l0 zs x.2))))], [(3, .box ((bA q).map .d)), (4, .box [.d (.int .i64 0), .nil 5, .d (.str [])])]⟩,
  fun x => ao q.name x.2 = true /\ (back q.name).length + 1 <= x.1 + (back x.2).length /\ gX zs (dU zs) q (x.1 + 1) x.2 = cz zs q, fun x => x.1,
  ⟨((back q.name).length + 1, [46]), ⟨qI q.name, by omega, rfl⟩, ah.keep ⟨⟨rfl, rfl⟩, ⟨rfl, rfl⟩, ⟨rfl, rfl⟩, ⟨rfl, rfl⟩, trivial⟩ ⟨⟨rfl, rfl⟩, ⟨rfl, rfl⟩, trivial⟩⟩, fun ⟨f, a⟩ ⟨hu, hf, hinv⟩ => ?_⟩
 dsimp only at hu hf hinv ⊢
 rw [y9] at hinv
 cases hc : l0 zs a with
 | none =>
  rw [hc] at hinv
  conv => whnf
  refine ae rfl ?_
  rw [<- hinv]; rfl
 | some x =>
  rw [hc] at hinv
  have hx := xQ zs a x hc
  have hg' := hg x.2 (List.mem_of_getElem? hx)
  conv => whnf
  (refine ⟨(by kernel_rfl : aO _ _ = true), ?_⟩; conv => whnf)
  refine ⟨Int.natCast_nonneg x.1, aR x.2, ay hx, ?_⟩
  conv => whnf
  (refine ⟨_, _, Ig x.2.zone q hg'.1, ?_⟩; conv => whnf)
  dsimp only at hinv
  refine ab (fun h2 => ?_) (fun h2 => ?_) <;> (rw [h2]; conv => whnf)
  . have h2' : ((bg x.2.zone q).1.kind != 4) = true := h2
    rw [if_pos h2'] at hinv
    refine ae rfl ?_
    rw [<- hinv]; rfl
  . have h2' : ((bg x.2.zone q).1.kind != 4) = false := h2
    rw [if_neg (by rw [h2']; simp)] at hinv
    have hfi : dC a (dU zs) = some x.1 := by rw [wA, hc]; rfl
    obtain ⟨u, r1, r2, r3⟩ := qE hg hq (nF zs) hu hf hfi hx h2'
    obtain ⟨f, rfl⟩ : ∃ g, f = g + 1 := ⟨f - 1, by omega⟩
    (refine ⟨_, _, xR zs (bg x.2.zone q).1.cut hz hl, ?_⟩; conv => whnf)
    exact ⟨(f, (bg x.2.zone q).1.cut), ⟨r1, by dsimp only; omega, hinv⟩, by (show f < f + 1; omega), ah.keep ⟨⟨rfl, rfl⟩, ⟨rfl, rfl⟩, ⟨rfl, rfl⟩, ⟨rfl, rfl⟩, trivial⟩ ⟨⟨rfl, rfl⟩, ⟨rfl, rfl⟩, trivial⟩⟩
end Go.Proofs.YtnbnldnfkikakaaGreatDoor

set_option maxRecDepth 100000
namespace Go.Proofs.YtnbnldnfkikakaaGreatDoor
open NQ Go NP Go.RowKit
def oY (i : Nat) : Code -> Option (Array Oper)
 | .region id ops _ => (match Nat.beq id i with | true => some ops | false => none)
 | .seq a b => (match oY i a with | some x => some x | none => oY i b)
 | .cond _ a b => (match oY i a with | some x => some x | none => oY i b)
 | .block _ b => oY i b
 | .loop b => oY i b
 | .rangeFunc _ _ _ b => none
 | _ => none
def EC (q : ax) (l : List aq) : St := ⟨[(5, .d (.ptr (bA q))), (6, .ptr 100006 0), (9, .ptr 100009 0)], [(100006, .box [.d (.int .i64 0), .nil 5, .d (.str [])]), (100009, .box [.own 200]), (200, .row 47 2 (l.map aA))]⟩
theorem ED (q : ax) (l l' : List aq) (ops : Array Oper) (ho : oY 12 ((Tryz.f12.body).getD .skip) = some ops) (Q : St -> Prop) (h : FnR sF 41 false 47 2 (l.map aA) false [.fn 42 [] []] (l'.map aA)) (hk : ∀ st, ah sF st (EC q l') -> Q st) :
 mU sF Tryz.f12.ntmps [55555] ops false Q (EC q l) := by
 conv at ho => lhs; whnf
 cases ho
 conv => whnf
 exact ⟨_, h, hk _ (ah.keep ⟨⟨rfl, rfl⟩, ⟨rfl, rfl⟩, ⟨rfl, rfl⟩, trivial⟩ ⟨⟨rfl, rfl⟩, ⟨rfl, rfl⟩, ⟨rfl, rfl⟩, trivial⟩)⟩
set_option maxHeartbeats 1000000 in
theorem xz (w : bt) (a : Int) (q : ax) (hF : mA w) : NQ.Fn cx 12 [.agg (bH w), .int .i64 a, .agg (bA q)] (.tuple [.agg ((cR (j7 w a q).1).map .d), .d (.int .i64 (j7 w a q).2)]) [] := by
 show NQ.Fn sF _ _ _ _
 refine vJ (fun | 3 => [4] | 7 => [5, 8] | 12 => [55555] | 13 => [55555] | _ => []) JT H4 Tryz.func12 (by kernel_rfl) rfl (Nat.le_of_ble_eq_true rfl) ?_
 conv => whnf
 (refine ⟨_, _, lS w (by have := hF.hosts; omega) (by have := hF.zones; omega) (by have := hF.hints; omega), ?_⟩; conv => whnf)
 have bad : (bC w && aP q) = false -> j7 w a q = (dX, 1) := fun h => by unfold j7; rw [if_pos h]
 repeat' (first | (refine ⟨_, _, wE q, ?_⟩; conv => whnf) | (refine ab (fun h => ?_) (fun h => ?_) <;> (rw [h]; conv => whnf)) | fail)
 . refine ae rfl ?_
   rw [bad (by simp_all)]; rfl
 . refine ae rfl ?_
   rw [bad (by simp_all)]; rfl
 have hval : bC w = true := by simpa using ‹(!bC w) = false›
 have hq : aP q = true := by simpa using ‹(!aP q) = false›
 have hask : j7 w a q = if mb w.hosts a < 0 then (dX, 4) else match mg q (dy hZ (bP w.zones (mb w.hosts a) q)) with
  | none => (⟨7, [], []⟩, 0)
  | some z => bg z q := by unfold j7; exact if_neg (by rw [hval, hq]; simp)
 (refine ⟨_, _, BH w.hosts (fun h => h.addr == a) (.ptr [.int .i64 a]) (by have := hF.hosts; omega) (fun h _ => G3 h a), ?_⟩; conv => whnf)
 refine ab (fun h1 => ?_) (fun h1 => ?_) <;> (rw [h1]; conv => whnf)
 . have h1' : mb w.hosts a < 0 := of_decide_eq_true h1
   refine ae rfl ?_
   rw [hask, if_pos h1']; rfl
 rw [if_neg (of_decide_eq_false h1 : ¬ mb w.hosts a < 0)] at hask
 (refine ⟨_, _, vB w _ _, ?_⟩; conv => whnf)
 generalize hK : mb w.hosts a = K at *
 have hzl : (bP w.zones K q).length <= 1000 := by
  unfold bP
  rw [List.length_map]
  have := List.length_filter_le (jY K q) w.zones
  have := hF.zones
  omega
 refine ⟨91, _, _, [(5, .d (.ptr (bA q))), (6, .ptr 100006 0), (9, .ptr 100009 0), (31, .d (.fn 91 [] [.ptr (bH w), .ptr [.fn 39 [] [.ptr [.int .i64 K], .ptr (bA q)]]]))],
  fun k => [(100006, .box [.d (.int .i64 0), .nil 5, .d (.str [])]), (100009, .box [.own 200]), (200, .row 47 2 (((bP w.zones K q).take k).map aA))], [100006, 100009],
  (ah.zero (ah.uj 9 0 200 2 [.nil 2] 47 2 (by kernel_rfl) rfl (by kernel_rfl) (by decide))).trans ((k8.ren [6, 9] (by kernel_rfl)).trans (ah.zero (ah.keep ⟨⟨(by kernel_rfl), (by kernel_rfl)⟩, ⟨(by kernel_rfl), (by kernel_rfl)⟩, ⟨(by kernel_rfl), (by kernel_rfl)⟩, ⟨(by kernel_rfl), (by kernel_rfl)⟩, trivial⟩ ⟨⟨(by kernel_rfl), (by kernel_rfl)⟩, ⟨(by kernel_rfl), (by kernel_rfl)⟩, ⟨(by kernel_rfl), (by kernel_rfl)⟩, trivial⟩))),
  ⟨rfl, xP w 39 (.ptr [.int .i64 K]) (.ptr (bA q)) (jY K q) (fun p _ => EB K q p) rfl (by have := hF.zones; omega), ?_, rfl, rfl⟩, ⟨Nat.le_of_ble_eq_true rfl, ?_, rfl, by kernel_rfl⟩, ?_, ?_⟩
 . intro x hx
   exact vL _ _ _ x hx
 . intro r hr
   rcases List.mem_cons.1 hr with rfl | hr
   . exact ⟨by omega, [.d (.int .i64 0), .nil 5, .d (.str [])], by kernel_rfl⟩
   . rcases List.mem_cons.1 hr with rfl | hr
     . exact ⟨by omega, [.own 200], by kernel_rfl⟩
     . cases hr
 . intro k x hx
   obtain ⟨i, p, rfl, hp⟩ := mJ _ _ _ k x hx
   have hz : (bP w.zones K q)[k]? = some p.zone := by unfold bP; rw [List.getElem?_map, hp]; rfl
   have hkl : k < (bP w.zones K q).length := (List.getElem?_eq_some_iff.1 hz).1
   conv => whnf
   refine ⟨by (show (((bP w.zones K q).take k).map aA).length + 1 <= _); simp; omega, by (show ((((bP w.zones K q).take k).map aA).length + 1) * 40 <= _); simp; omega, ?_⟩
   conv => whnf
   refine ⟨?_, fun r hr => ?_⟩
   . show ah sF _ ⟨[], [(100006, .box [.d (.int .i64 0), .nil 5, .d (.str [])]), (100009, .box [.own 200]), (200, .row 47 2 (((bP w.zones K q).take (k + 1)).map aA))]⟩
     rw [bw hz, List.map_append]
     exact ah.keep trivial ⟨⟨(by kernel_rfl), (by kernel_rfl)⟩, ⟨(by kernel_rfl), (by kernel_rfl)⟩, ⟨(by kernel_rfl), (by kernel_rfl)⟩, trivial⟩
   . rcases List.mem_cons.1 hr with rfl | hr
     . exact av.2 ⟨_, aG ..⟩
     . rcases List.mem_cons.1 hr with rfl | hr
       . exact av.2 ⟨_, by rw [aM _ _ (by omega), aG]⟩
       . cases hr
 . rw [l8]
   have : (bP w.zones K q).take (w.zones.filter (jY K q)).length = bP w.zones K q := List.take_of_length_le (by unfold bP; rw [List.length_map]; exact Nat.le_refl _)
   dsimp only
   rw [this]
   have hperm := mq (qV (bP w.zones K q))
   conv => whnf
   refine ab (fun h2 => ?_) (fun h2 => ?_) <;> (rw [h2]; conv => whnf)
   . have hnil : bP w.zones K q = [] := by
      apply List.eq_nil_of_length_eq_zero
      have h2' : (((bP w.zones K q).map aA).length : Int) = 0 := by simpa using h2
      rw [List.length_map] at h2'; omega
     refine ae rfl ?_
     rw [hask, hnil]; rfl
   . have hlen : (dy hZ (bP w.zones K q)).length = (bP w.zones K q).length := hperm.length_eq
     have hpos : 0 < (bP w.zones K q).length := by
      have h2' : ¬ (((bP w.zones K q).map aA).length : Int) = 0 := by simpa using h2
      rw [List.length_map] at h2'; omega
     have hmem : ∀ z ∈ dy hZ (bP w.zones K q), dj z = true := fun z hz => by
      have hz := hperm.subset hz
      unfold bP at hz
      obtain ⟨p, hp, rfl⟩ := List.mem_map.1 hz
      exact hF.few p (List.mem_filter.1 hp).1
     have hS := fun fl => D2 (bP w.zones K q) (by omega) fl
     refine ⟨EC q (bP w.zones K q), ah.keep ⟨⟨(by kernel_rfl), (by kernel_rfl)⟩, ⟨(by kernel_rfl), (by kernel_rfl)⟩, ⟨(by kernel_rfl), (by kernel_rfl)⟩, trivial⟩ ⟨⟨(by kernel_rfl), (by kernel_rfl)⟩, ⟨(by kernel_rfl), (by kernel_rfl)⟩, ⟨(by kernel_rfl), (by kernel_rfl)⟩, trivial⟩, ?_⟩
     generalize dy hZ (bP w.zones K q) = L at *
     refine ED q _ L _ (by kernel_rfl) _ (hS _) fun st hst => ?_
     conv => whnf
     refine ⟨_, hst, ?_⟩
     cases L with
     | nil => simp at hlen; omega
     | cons z t =>
      have hz := hmem z (List.mem_cons_self ..)
      conv => whnf
      refine ⟨by decide, by (show 0 < ((z :: t).map aA).length); simp, ?_⟩
      conv => whnf
      have one : ((q.type == 6) && (z.apex == q.name)) = false -> j7 w a q = bg z q := fun hb => by rw [hask]; unfold mg; dsimp only; rw [hb]; rfl
      refine ⟨aA z, rfl, ?_⟩
      conv => whnf
      refine ab (fun h6 => ?_) (fun h6 => ?_) <;> (rw [h6]; conv => whnf)
      case refine_2 =>
       (refine ⟨_, _, j6 z q (by have := (cA hz).1; omega), ?_⟩; conv => whnf)
       refine ae rfl ?_
       rw [one (by rw [h6]; rfl)]; rfl
      refine ab (fun ha => ?_) (fun ha => ?_) <;> (rw [ha]; conv => whnf)
      case refine_2 =>
       (refine ⟨_, _, j6 z q (by have := (cA hz).1; omega), ?_⟩; conv => whnf)
       refine ae rfl ?_
       rw [one (by rw [ha]; simp)]; rfl
      refine ab (fun hl => ?_) (fun hl => ?_) <;> (rw [hl]; conv => whnf)
      case refine_2 =>
       have ht : t = [] := by
        cases t with
        | nil => rfl
        | cons y t => exfalso; have := of_decide_eq_false hl; simp at this; omega
       subst ht
       (refine ⟨_, _, j6 z q (by have := (cA hz).1; omega), ?_⟩; conv => whnf)
       refine ae rfl ?_
       have e : j7 w a q = bg z q := by
        rw [hask]; unfold mg; dsimp only
        have h6' : (q.type == 6) = true := h6
        have ha' : (z.apex == q.name) = true := ha
        rw [h6', ha']; rfl
       rw [e]; rfl
      cases t with
      | nil => exfalso; have := of_decide_eq_true hl; simp at this
      | cons y t =>
       have hy := hmem y (List.mem_cons_of_mem _ (List.mem_cons_self ..))
       refine ⟨by decide, by (show 1 < ((z :: y :: t).map aA).length; simp), ?_⟩
       conv => whnf
       refine ⟨aA y, rfl, ?_⟩
       conv => whnf
       (refine ⟨_, _, j6 y q (by have := (cA hy).1; omega), ?_⟩; conv => whnf)
       refine ae rfl ?_
       have e : j7 w a q = bg y q := by
        rw [hask]; unfold mg; dsimp only
        have h6' : (q.type == 6) = true := h6
        have ha' : (z.apex == q.name) = true := ha
        rw [h6', ha']; rfl
       rw [e]; rfl
end Go.Proofs.YtnbnldnfkikakaaGreatDoor

set_option maxRecDepth 100000
namespace NP
open NQ Go
def jI (n : Bs) (t : Int) (d : Datum) : Signed := ⟨⟨n, t, 9, [d]⟩, []⟩
def Cd : aq := ⟨[46], [jI [46] 2 ⟨[97, 46, 110, 115], 0, 0⟩, jI [46] 4 ⟨[], 1, 0⟩, jI [120] 2 ⟨[98, 46, 110, 115], 0, 0⟩]⟩
def xX : aq := ⟨[120], [jI [120] 2 ⟨[98, 46, 110, 115], 0, 0⟩, jI [120] 4 ⟨[], 1, 0⟩, jI [108, 46, 120] 3 ⟨[116, 46, 120], 0, 0⟩, jI [116, 46, 120] 5 ⟨[116], 0, 0⟩]⟩
def exW : bt := ⟨[⟨[97, 46, 110, 115], 1, 0⟩, ⟨[98, 46, 110, 115], 2, 1⟩], [⟨0, Cd⟩, ⟨1, xX⟩], ⟨[46], 6, 0, [⟨[], 1, 1⟩]⟩, [1]⟩
def Fe : bt := ⟨exW.hosts, [⟨0, Cd⟩], exW.anchor, exW.hints⟩
def IJ : bt := ⟨[⟨[97, 46, 110, 115], 1, 0⟩, ⟨[98, 46, 110, 115], 1, 1⟩], [⟨0, Cd⟩], exW.anchor, exW.hints⟩
def JB (w : bt) (l : List ai) : bt := ⟨w.hosts, l, w.anchor, w.hints⟩
def qLX : ax := ⟨[108, 46, 120], 5⟩
def qTX : ax := ⟨[116, 46, 120], 5⟩
def qY : ax := ⟨[121], 5⟩
theorem gQ : mA exW := ⟨by decide, by decide, by decide, fun p hp => by
 rcases List.mem_cons.1 hp with rfl | hp
 . kernel_rfl
 . rcases List.mem_cons.1 hp with rfl | hp
   . kernel_rfl
   . cases hp⟩
theorem Ff : mA Fe := ⟨by decide, by decide, by decide, fun p hp => by
 rcases List.mem_cons.1 hp with rfl | hp
 . kernel_rfl
 . cases hp⟩
theorem xy {w : bt} {q : ax} {a : Int} (hval : bC w = true) (hq : aP q = true) (hF : mA w) : j7 w a q = if mb w.hosts a < 0 then (dX, 4) else (yZ w.zones (mb w.hosts a) q, 0) := by
 unfold j7
 rw [if_neg (by rw [hval, hq]; simp)]
 split
 . rfl
 . rename_i h
   exact CS hval hF hq (by omega)
theorem jR : bC exW = true := by kernel_rfl
theorem Fi : iG exW qLX = (⟨1, [jI [108, 46, 120] 3 ⟨[116, 46, 120], 0, 0⟩, jI [116, 46, 120] 5 ⟨[116], 0, 0⟩], []⟩, 0) := by kernel_rfl
theorem Hf : iG Fe qLX = (dX, 34) := by kernel_rfl
theorem Hc : j7 exW 1 qTX = (⟨4, [jI [120] 2 ⟨[98, 46, 110, 115], 0, 0⟩], [120]⟩, 0) := by
 rw [xy jR (by kernel_rfl) gQ]; kernel_rfl
theorem Hd : j7 exW 2 qY = (⟨7, [], []⟩, 0) := by
 rw [xy jR (by kernel_rfl) gQ]; kernel_rfl
theorem He : j7 exW 3 qY = (dX, 4) := by
 rw [xy jR (by kernel_rfl) gQ]; kernel_rfl
theorem Fg : ic true exW [116, 46, 120] = ([120], 0) := by kernel_rfl
theorem Fh : ic true exW [121] = ([46], 0) := by kernel_rfl
theorem Bt : bC IJ = false := by kernel_rfl
end NP
namespace Go.Proofs.YtnbnldnfkikakaaGreatDoor
open NQ Go NP Go.RowKit
noncomputable def cxE : Cx := { cx with bld := [14, 28, 38, 40, 42, 100032] }
theorem tyE : aT cxE := aB
theorem IN : cxE.P.follows .mixedOrders = true := mixed
noncomputable def E4 : Cx := { cx with bld := [10] }
theorem JS : aT E4 := aB
theorem H3 : E4.P.follows .mixedOrders = true := mixed
theorem jM (n : Bs) (t : Int) (d : Datum) : NQ.Fn cx 90 [.str n, .int .i64 t, .agg (bG d)] (.agg ((ag (jI n t d)).map .d)) [] := by
 show NQ.Fn E4 _ _ _ _
 refine cM (fun _ => []) JS H3 Tryz.func90 (by kernel_rfl) rfl (Nat.le_of_ble_eq_true rfl) ?_
 conv => whnf
 exact ae rfl rfl
def JJ : AV := .agg (.own 32 :: ((bH exW).drop 1).map .d)
def JK : List (Nat × Blk) := [(32, .row 51 3 (exW.hosts.map dL) true)]
theorem x4 : NQ.Fn cx 33 [] JJ JK := by
 show NQ.Fn cxE _ _ _ _
 refine cM (fun _ => []) tyE IN Tryz.func33 (by kernel_rfl) rfl (Nat.le_of_ble_eq_true rfl) ?_
 conv => whnf
 (refine ⟨_, _, jM [46] 2 ⟨[97, 46, 110, 115], 0, 0⟩, ?_⟩; conv => whnf)
 (refine ⟨_, _, jM [46] 4 ⟨[], 1, 0⟩, ?_⟩; conv => whnf)
 (refine ⟨_, _, jM [120] 2 ⟨[98, 46, 110, 115], 0, 0⟩, ?_⟩; conv => whnf)
 (refine ⟨_, _, jM [120] 2 ⟨[98, 46, 110, 115], 0, 0⟩, ?_⟩; conv => whnf)
 (refine ⟨_, _, jM [120] 4 ⟨[], 1, 0⟩, ?_⟩; conv => whnf)
 (refine ⟨_, _, jM [108, 46, 120] 3 ⟨[116, 46, 120], 0, 0⟩, ?_⟩; conv => whnf)
 (refine ⟨_, _, jM [116, 46, 120] 5 ⟨[116], 0, 0⟩, ?_⟩; conv => whnf)
 exact yV (by kernel_rfl) (by kernel_rfl) ⟨⟨by kernel_rfl, by kernel_rfl⟩, trivial⟩
end Go.Proofs.YtnbnldnfkikakaaGreatDoor

set_option maxRecDepth 100000
namespace Go.Proofs.YtnbnldnfkikakaaGreatDoor
open NQ Go NP Go.RowKit
theorem ym (w : bt) (s : Bs) (hF : mA w) : NQ.Fn cx 16 [.agg (bH w), .str s] (.tuple [.d (.str (ic (bC w) w s).1), .d (.int .i64 (ic (bC w) w s).2)]) [] :=
 Hp w s (bC w) (lS w (by have := hF.hosts; omega) (by have := hF.zones; omega) (by have := hF.hints; omega)) (by have := hF.zones; omega)
theorem Eh (w : bt) (hF : mA w) : NQ.Fn cx 19 [.agg (bH w)] (.d (.bool (bC w))) [] := lS w (by have := hF.hosts; omega) (by have := hF.zones; omega) (by have := hF.hints; omega)
theorem Cy (w : bt) (hF : mA w) : NQ.Fn cx 20 [.agg (bH w)] (.d (.bool (bC w))) [] := Eg w (by have := hF.hosts; omega) (by have := hF.zones; omega) (by have := hF.hints; omega) (fun p hp => by have := (cA (hF.few p hp)).1; omega)
set_option maxHeartbeats 2000000 in
theorem JE : NQ.Fn cx 10 [] (.d (.bool true)) [] := by
 have fT := za exW qLX gQ; rw [Fi] at fT
 have fA := xz exW 1 qTX gQ; rw [Hc] at fA
 have fB := xz exW 2 qY gQ; rw [Hd] at fB
 have fC := xz exW 3 qY gQ; rw [He] at fC
 have fH := ym exW [116, 46, 120] gQ; rw [jR, Fg] at fH
 have fI := ym exW [121] gQ; rw [jR, Fh] at fI
 have fV := Eh exW gQ; rw [jR] at fV
 have fD := za Fe qLX Ff; rw [Hf] at fD
 have fW := lS IJ (by decide) (by decide) (by decide); rw [Bt] at fW
 have fS := uq ⟨1, [jI [108, 46, 120] 3 ⟨[116, 46, 120], 0, 0⟩, jI [116, 46, 120] 5 ⟨[116], 0, 0⟩], []⟩ ⟨1, [jI [108, 46, 120] 3 ⟨[116, 46, 120], 0, 0⟩, jI [116, 46, 120] 5 ⟨[116], 0, 0⟩], []⟩ (by decide) (by decide)
 rw [decide_eq_true rfl] at fS
 refine cM (fun _ => []) aB mixed Tryz.func10 (by kernel_rfl) rfl (Nat.le_of_ble_eq_true rfl) ?_
 conv => whnf
 (refine ⟨_, _, x4, ?_⟩; conv => whnf)
 refine ⟨_, fT, by kernel_rfl, ?_⟩
 conv => whnf
 refine ⟨_, fA, by kernel_rfl, ?_⟩
 conv => whnf
 refine ⟨_, fB, by kernel_rfl, ?_⟩
 conv => whnf
 refine ⟨_, fH, by kernel_rfl, ?_⟩
 conv => whnf
 refine ⟨_, fI, by kernel_rfl, ?_⟩
 conv => whnf
 refine ⟨_, fC, by kernel_rfl, ?_⟩
 conv => whnf
 refine ⟨_, fV, by kernel_rfl, ?_⟩
 conv => whnf
 repeat' (first
  | (refine ⟨(by kernel_rfl : aO _ _ = true), ?_⟩; conv => whnf)
  | (refine ⟨_, _, fS, ?_⟩; conv => whnf)
  | (refine ⟨_, fD, by kernel_rfl, ?_⟩; conv => whnf)
  | (refine ⟨_, fW, by kernel_rfl, ?_⟩; conv => whnf)
  | (refine ⟨by decide, by decide, by decide, ?_⟩; conv => whnf)
  | (refine ⟨by decide, by decide, ?_⟩; conv => whnf)
  | (refine ⟨by decide, aR _, rfl, ?_⟩; conv => whnf)
  | (refine ⟨dL _, rfl, ?_⟩; conv => whnf)
  | exact ae rfl rfl
  | fail)
theorem Ji (w : bt) (q : ax) : NQ.Fn cx 21 [.agg (bH w), .agg (bA q)] (.d (.bool (kM w && bC w && aP q))) [] := by
 refine ar aB mixed Tryz.func21 (by kernel_rfl) rfl (Nat.le_of_ble_eq_true rfl) ?_; conv => whnf
 (refine ⟨_, _, Hh w, ?_⟩; conv => whnf)
 cases hf : kM w with
 | false =>
  conv => whnf
  exact ae rfl rfl
 | true =>
  have hF := (Fj hf).1
  conv => whnf
  (refine ⟨_, _, Cy w hF, ?_⟩; conv => whnf)
  cases hv : bC w with
  | false =>
   conv => whnf
   exact ae rfl rfl
  | true =>
   conv => whnf
   (refine ⟨_, _, wi q, ?_⟩; conv => whnf)
   exact ae rfl rfl
theorem JG (w : bt) (l : List ai) : NQ.Fn cx 22 [.agg (bH w), .slice 3 (l.map aR)] (.agg ((bH (JB w l)).map .d)) [] := by
 refine ar aB mixed Tryz.func22 (by kernel_rfl) rfl (Nat.le_of_ble_eq_true rfl) ?_; conv => whnf
 exact ae rfl rfl
end Go.Proofs.YtnbnldnfkikakaaGreatDoor

set_option maxRecDepth 100000
namespace NP
open NQ Go
theorem sm {zs : List ai} (hg : nf zs) : ∀ (f : Nat) (q : ax) (kept : List Signed), aP q = true -> (∀ s ∈ kept, ∃ p ∈ zs, s ∈ p.zone.sets) ->
 (∀ s ∈ (jc zs f q kept).1.sets, ∃ p ∈ zs, s ∈ p.zone.sets) /\ (jc zs f q kept).1.sets.length <= kept.length + f + 1000
 | 0, q, kept, _, _ => ⟨fun s hs => (by cases hs), by simp [jc, dX]⟩
 | f + 1, q, kept, hq, hk => by
  unfold jc
  cases hok : (cz zs q).2 with
  | false => exact ⟨fun s hs => (by cases hs), by simp [dX]⟩
  | true =>
   rw [if_neg (by simp)]
   obtain ⟨p, hpm, u, hpa, hp4⟩ := qz hg hq (x := (cz zs q).1) (by rw [<- hok])
   split
   . refine ⟨fun s hs => ?_, ?_⟩
     . rcases List.mem_append.1 hs with hs | hs
       . exact hk s hs
       . rw [hpa] at hs; exact ⟨p, hpm, GW u.few q s hs⟩
     . have := Ao u.few q
       show (kept ++ (cz zs q).1.sets).length <= _
       rw [List.length_append, hpa]; omega
   . rename_i h2
     have hk3 : (bg p.zone q).1.kind = 3 := by rw [<- hpa]; simpa using h2
     obtain ⟨s, R, d, hs, hsm, hst, hsd, hdv⟩ := u.CK hk3
     rw [<- hpa] at hs
     rw [hs]
     simp only [List.head?_cons, hsd]
     have := sm hg f ⟨d.text, q.type⟩ (kept ++ [s]) (by
      unfold aP at hq ⊢
      simp only [Bool.and_eq_true] at hq ⊢
      exact ⟨⟨hdv, hq.1.2⟩, hq.2⟩) fun x hx => by
       rcases List.mem_append.1 hx with hx | hx
       . exact hk x hx
       . rw [List.mem_singleton] at hx; subst hx; exact ⟨p, hpm, hsm⟩
     refine ⟨this.1, ?_⟩
     have h := this.2
     rw [List.length_append, List.length_singleton] at h
     omega
structure CF (a : Ans) : Prop where
 len : a.sets.length <= 100000
 small : ∀ s ∈ a.sets, s.set.data.length <= 100000 /\ s.sigs.length <= 100000
theorem Jh {w : bt} (hF : mA w) (q : ax) : CF (iG w q).1 := by
 unfold iG
 split
 . exact ⟨by decide, fun s hs => by cases hs⟩
 . rename_i h
   have hv : bC w = true /\ aP q = true := by simpa using h
   have hg : nf w.zones := fun p hp => ⟨hF.few p hp, (mZ hv.1 p hp).1⟩
   obtain ⟨h1, h2⟩ := sm hg 9 q [] hv.2 (fun s hs => by cases hs)
   refine ⟨by rw [List.length_nil] at h2; omega, fun s hs => ?_⟩
   obtain ⟨p, hp, hm⟩ := h1 s hs
   have := (cA (hF.few p hp)).2 s hm
   omega
end NP
namespace Go.Proofs.YtnbnldnfkikakaaGreatDoor
open NQ Go NP Go.RowKit
theorem Jg (a : Ans) (h : CF a) : NQ.Fn cx 18 [.agg (cR a), .agg (cR a)] (.d (.bool true)) [] := by
 have := uq a a h.len h.small
 rw [decide_eq_true rfl] at this
 exact this
end Go.Proofs.YtnbnldnfkikakaaGreatDoor
