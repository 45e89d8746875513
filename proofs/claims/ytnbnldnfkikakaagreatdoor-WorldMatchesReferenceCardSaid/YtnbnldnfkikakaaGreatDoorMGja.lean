/-
  Texts of the proof of the law WorldMatchesReference, merged in build order.
-/
import Derived.Test.YtnbnldnfkikakaaGreatDoorMGa
import Derived.Test.YtnbnldnfkikakaaGreatDoorQsoM
import Derived.Test.YtnbnldnfkikakaaGreatDoorSortM
import Derived.Test.YtnbnldnfkikakaaGreatDoorMLrc
import Derived.Test.YtnbnldnfkikakaaGreatDoorMCa
import Derived.Test.YtnbnldnfkikakaaGreatDoorMVa
set_option linter.all false
set_option maxRecDepth 100000
namespace NP
open NQ Go
theorem oX (s : Bs) : 0 <= cr s /\ cr s <= 8 := by
 unfold cr cz
 split
 . rename_i h; have := rh h; dsimp only; omega
 . simp
def gD (a b : ao) : Int := cr b.apex - cr a.apex
def D2 : List D -> Bs
 | .str s :: _ => s
 | _ => []
def GO (x y : List D) : Int := cr (D2 y) - cr (D2 x)
theorem rq (l : List ao) : je gD l := je.key (fun z => - cr z.apex) fun x _ y _ => by unfold gD; omega
theorem Bc (l : List ao) : dm GO (l.map aA) = (dm gD l).map aA := CN aA gD GO l fun x _ y _ => rfl
def jQ (k : Int) (q : av) (p : ai) : Bool := decide (p.host = k) && (aM q.name p.zone.apex).1
def bN (zs : List ai) (k : Int) (q : av) : List ao := (zs.filter (jQ k q)).map (·.zone)
def fM (l : List jd) (a : Int) : Int := match l.findIdx? (fun h => h.addr == a) with | some k => (k : Int) | none => -1
def lg (q : av) (l : List ao) : Option ao := match l with
 | [] => none
 | z :: t => if ((q.type == 6) && (z.apex == q.name)) = true then (match t with | y :: _ => some y | [] => some z) else some z
def eQ (w : bt) (a : Int) (q : av) : Ans × Int :=
 if (aX w && aL q) = false then (dF, 1) else if fM w.hosts a < 0 then (dF, 4)
 else match lg q (dm gD (bN w.zones (fM w.hosts a) q)) with
  | none => (⟨7, [], []⟩, 0)
  | some z => aZ z q
end NP
namespace Go.Proofs.YtnbnldnfkikakaaGreatDoor
open NQ Go NP Go.RowKit
noncomputable def sW : Cx := { cx with chg := fun g => match Nat.beq g 41 with | true => 2 | false => cx.chg g }
theorem Jq : aT sW := ay
theorem Hj : sW.P.follows .mixedOrders = true := mixed
theorem Im (a b : ao) : NQ.Fn cx 42 [.agg (aA a), .agg (aA b)] (.d (.int .i64 (gD a b))) [] := by
 refine aq ay mixed Tryz.func42 (by kernel_rfl) rfl (Nat.le_of_ble_eq_true rfl) ?_; conv => whnf
 (refine ⟨(by kernel_rfl : aJ _ _ = true), ?_⟩; conv => whnf)
 (refine ⟨_, _, pB b.apex, ?_⟩; conv => whnf)
 (refine ⟨_, _, pB a.apex, ?_⟩; conv => whnf)
 refine ae rfl ?_
 show AV.d (.int .i64 (IntKind.i64.wrap (cr b.apex - cr a.apex))) = _
 have h1 := oX a.apex
 have h2 := oX b.apex
 rw [wrap_i64 (by omega) (by omega)]; rfl
theorem CM (l : List ao) (hl : l.length <= 100000) (fl : Bool) : FnR cx 41 false 47 2 (l.map aA) fl [.fn 42 [] []] ((dm gD l).map aA) := by
 rw [<- Bc]
 exact EG (cx := cx) (ρ := Tryz.sort41_ren) Tryz.sort41 (k := 2) Tryz.isAgg47 Tryz.sizeOf47 ⟨_, Tryz.func41, by kernel_rfl, rfl⟩
  (fun x hx y hy => by
   obtain ⟨a, ha, rfl⟩ := List.mem_map.1 hx
   obtain ⟨b, hb, rfl⟩ := List.mem_map.1 hy
   exact Im a b) (enters_of Tryz.func42 (by kernel_rfl) rfl) ((rq l).map fun x _ y _ => rfl) (by rw [List.length_map]; omega)
end Go.Proofs.YtnbnldnfkikakaaGreatDoor

set_option maxRecDepth 100000
namespace NP
open NQ Go
def dK (ok : ai -> Bool) (better : ai -> ai -> Bool) : Nat -> List ai -> Option (Nat × ai) -> Option (Nat × ai)
 | _, [], b => b
 | i, p :: t, b => dK ok better (i + 1) t (if ok p = true then (match b with | none => some (i, p) | some x => if better p x.2 = true then some (i, p) else b) else b)
def xO : Option (Nat × ai) -> Int
 | none => -1
 | some x => (x.1 : Int)
def bG (ok : ai -> Bool) (better : ai -> ai -> Bool) (i : Nat) (p : ai) (b : Option (Nat × ai)) : Option (Nat × ai) := if ok p = true then (match b with | none => some (i, p) | some x => if better p x.2 = true then some (i, p) else b) else b
theorem wz {ok : ai -> Bool} {better : ai -> ai -> Bool} {l : List ai} {k : Nat} {p : ai} (h : l[k]? = some p) (b : Option (Nat × ai)) : dK ok better k (l.drop k) b = dK ok better (k + 1) (l.drop (k + 1)) (bG ok better k p b) := by
 rw [drop_cons h]; rfl
def gQ (zs : List ai) (b : Option (Nat × ai)) : Prop := ∀ x, b = some x -> zs[x.1]? = some x.2
theorem gQ.step {zs : List ai} {b : Option (Nat × ai)} (h : gQ zs b) {ok : ai -> Bool} {better : ai -> ai -> Bool} {i : Nat} {p : ai} (hp : zs[i]? = some p) : gQ zs (bG ok better i p b) := by
 intro x hx
 unfold bG at hx
 split at hx
 . split at hx
   . cases hx; exact hp
   . split at hx
     . cases hx; exact hp
     . exact h x hx
 . exact h x hx
theorem vf {zs : List ai} {ok : ai -> Bool} {better : ai -> ai -> Bool} : ∀ (l : List ai) (i : Nat) (b : Option (Nat × ai)), (∀ j, l[j]? = zs[i + j]?) -> gQ zs b -> gQ zs (dK ok better i l b)
 | [], i, b, _, h => h
 | p :: t, i, b, hl, h => vf t (i + 1) _ (fun j => by have := hl (j + 1); simp at this; rw [this]; congr 1; omega) (h.step (by have := hl 0; simpa using this.symm))
theorem nD {ok : ai -> Bool} {better : ai -> ai -> Bool} : ∀ (l : List ai) (i : Nat) (b : Option (Nat × ai)), dK ok better i l b = none ↔ (b = none /\ ∀ p ∈ l, ok p = false)
 | [], i, b => by simp [dK]
 | p :: t, i, b => by
  show dK ok better (i + 1) t (bG ok better i p b) = none ↔ _
  rw [nD t]
  unfold bG
  cases hp : ok p <;> cases b <;> simp [hp]
  intro h; split at h <;> cases h
theorem yZ {ok : ai -> Bool} {key : ai -> Int} : ∀ (l : List ai) (i : Nat) (b : Option (Nat × ai)) (x : Nat × ai), dK ok (fun p q => decide (key q < key p)) i l b = some x ->
 (b = some x \/ (x.2 ∈ l /\ ok x.2 = true)) /\ (∀ y, b = some y -> key y.2 <= key x.2) /\ ∀ p ∈ l, ok p = true -> key p <= key x.2
 | [], i, b, x, h => by cases h; exact ⟨.inl rfl, fun y hy => by cases hy; exact Int.le_refl _, fun p hp => by cases hp⟩
 | p :: t, i, b, x, h => by
  obtain ⟨h1, h2, h3⟩ := yZ t (i + 1) (bG ok (fun p q => decide (key q < key p)) i p b) x h
  unfold bG at h1 h2
  by_cases hp : ok p = true
  . rw [if_pos hp] at h1 h2
    cases b with
    | none =>
     refine ⟨.inr ?_, fun y hy => (by cases hy), fun q hq hoq => ?_⟩
     . rcases h1 with h1 | h1
       . cases h1; exact ⟨List.mem_cons_self .., hp⟩
       . exact ⟨List.mem_cons_of_mem _ h1.1, h1.2⟩
     . rcases List.mem_cons.1 hq with rfl | hq
       . exact h2 (i, q) rfl
       . exact h3 q hq hoq
    | some y =>
     dsimp only at h1 h2
     by_cases hb : key y.2 < key p
     . rw [if_pos (decide_eq_true hb)] at h1 h2
       have hpx := h2 (i, p) rfl
       refine ⟨.inr ?_, fun z hz => by cases hz; dsimp only at hpx; omega, fun q hq hoq => ?_⟩
       . rcases h1 with h1 | h1
         . cases h1; exact ⟨List.mem_cons_self .., hp⟩
         . exact ⟨List.mem_cons_of_mem _ h1.1, h1.2⟩
       . rcases List.mem_cons.1 hq with rfl | hq
         . exact hpx
         . exact h3 q hq hoq
     . rw [if_neg (by simpa using hb)] at h1 h2
       have hyx := h2 y rfl
       refine ⟨?_, fun z hz => h2 z hz, fun q hq hoq => ?_⟩
       . rcases h1 with h1 | h1
         . exact .inl h1
         . exact .inr ⟨List.mem_cons_of_mem _ h1.1, h1.2⟩
       . rcases List.mem_cons.1 hq with rfl | hq
         . omega
         . exact h3 q hq hoq
  . rw [if_neg hp] at h1 h2
    refine ⟨?_, h2, fun q hq hoq => ?_⟩
    . rcases h1 with h1 | h1
      . exact .inl h1
      . exact .inr ⟨List.mem_cons_of_mem _ h1.1, h1.2⟩
    . rcases List.mem_cons.1 hq with rfl | hq
      . exact absurd hoq hp
      . exact h3 q hq hoq
def iy (s : Bs) : Int := ((az s).length : Int)
theorem nT {s : Bs} (h : af s = true) : cr s = iy s := by unfold cr iy cz; rw [if_pos h]
theorem sn {s a : Bs} (hs : af s = true) (ha : af a = true) : (aM s a).1 = an s a := by unfold aM; rw [if_pos ⟨hs, ha⟩]
theorem xp {s : Bs} (h : af s = true) : s ≠ [] := by rintro rfl; revert h; decide
def dA (host : Int) (nm nt : Bs) (p : ai) : Bool := !((decide (host >= 0) && (p.host != host)) || (p.zone.apex == nt) || !an nm p.zone.apex)
def kP (p : ai) : Int := iy p.zone.apex
def ky (p q : ai) : Bool := decide (kP q < kP p)
def db (zs : List ai) (host : Int) (nm nt : Bs) : Option (Nat × ai) := dK (dA host nm nt) ky 0 zs none
def toH : Option (Nat × ai) -> Bs × Int
 | none => ([], -1)
 | some x => (x.2.zone.apex, cr x.2.zone.apex)
theorem wc {s : Bs} (hs : af s = true) : ∀ (l : List ai) (i : Nat) (b : Option (Nat × ai)), (∀ p ∈ l, af p.zone.apex = true) -> (∀ x, b = some x -> af x.2.zone.apex = true) -> dW s l (toH b) = toH (dK (dA (-1) s []) ky i l b)
 | [], i, b, _, _ => rfl
 | p :: t, i, b, hl, hb => by
  have hp := hl p (List.mem_cons_self ..)
  have e : (if (aM s p.zone.apex).1 = true /\ (toH b).2 < cr p.zone.apex then (p.zone.apex, cr p.zone.apex) else toH b) = toH (bG (dA (-1) s []) ky i p b) := by
   have hok : dA (-1) s [] p = an s p.zone.apex := by
    unfold dA
    have : (p.zone.apex == []) = false := by simpa using xp hp
    rw [this]; simp
   unfold bG
   rw [hok, sn hs hp]
   have h0 : 0 <= cr p.zone.apex := (oX _).1
   cases hu : an s p.zone.apex with
   | false => simp
   | true =>
    cases b with
    | none => simp only [toH, true_and, if_true]; rw [if_pos (by omega)]
    | some x =>
     have ed : ky p x.2 = decide (cr x.2.zone.apex < cr p.zone.apex) := by
      unfold ky kP; rw [nT hp, nT (hb x rfl)]
     simp only [toH, true_and, if_true, ed, decide_eq_true_eq]
     split <;> rfl
  refine (congrArg (dW s t) e).trans ?_
  refine wc hs t (i + 1) _ (fun q hq => hl q (List.mem_cons_of_mem _ hq)) fun x hx => ?_
  unfold bG at hx
  split at hx
  . split at hx
    . cases hx; exact hp
    . split at hx
      . cases hx; exact hp
      . exact hb x hx
  . exact hb x hx
theorem Dv {s : Bs} (hs : af s = true) {zs : List ai} (hz : ∀ p ∈ zs, af p.zone.apex = true) : dW s zs ([], -1) = toH (db zs (-1) s []) := wc hs zs 0 none hz (fun x hx => by cases hx)
def mo (zs : List ai) (a : Bs) : Option (Nat × ai) := dK (fun p => p.zone.apex == a) eM 0 zs none
theorem vA {zs : List ai} {a : Bs} : ∀ (l : List ai) (i : Nat) (m : List (Bs × Nat)) (b : Option (Nat × ai)), (∀ j, l[j]? = zs[i + j]?) -> gQ zs b -> dG a m = b.map (·.1) -> dG a (jk zs i l m) = (dK (fun p => p.zone.apex == a) eM i l b).map (·.1)
 | [], i, m, b, _, _, h => h
 | p :: t, i, m, b, hl, hb, h => by
  have hp : zs[i]? = some p := by have := hl 0; simpa using this.symm
  show dG a (jk zs (i + 1) t (if fh zs m p = true then kH p.zone.apex i m else m)) = (dK (fun p => p.zone.apex == a) eM (i + 1) t (bG (fun p => p.zone.apex == a) eM i p b)).map (·.1)
  refine vA t (i + 1) _ _ (fun j => by have := hl (j + 1); simp at this; rw [this]; congr 1; omega) (hb.step hp) ?_
  by_cases ha : p.zone.apex = a
  . have hb' : ∀ b, bG (fun p => p.zone.apex == a) eM i p b = (match b with | none => some (i, p) | some x => if eM p x.2 = true then some (i, p) else b) := fun b => by
     unfold bG; exact if_pos (by show (p.zone.apex == a) = true; rw [ha]; exact beq_self_eq_true a)
    rw [hb']
    cases b with
    | none =>
     have ht : fh zs m p = true := by unfold fh; rw [ha, h]; rfl
     rw [if_pos ht, lE, if_pos ha]; rfl
    | some x =>
     have hx := hb x rfl
     have ht : fh zs m p = eM p x.2 := by unfold fh; rw [ha, h]; simp only [Option.map_some]; rw [hx]
     dsimp only
     rw [ht]
     split
     . rw [lE, if_pos ha]; rfl
     . exact h
  . have hb' : bG (fun p => p.zone.apex == a) eM i p b = b := by unfold bG; exact if_neg (by simpa using ha)
    rw [hb']
    split
    . rw [lE, if_neg ha]; exact h
    . exact h
theorem vz (zs : List ai) (a : Bs) : dG a (dS zs) = (mo zs a).map (·.1) := vA zs 0 [] none (fun j => by rw [Nat.zero_add]) (fun x hx => by cases hx) rfl
theorem yO (zs : List ai) (a : Bs) : gQ zs (mo zs a) := vf zs 0 none (fun j => by rw [Nat.zero_add]) (fun x hx => by cases hx)
theorem yH (zs : List ai) (h : Int) (nm nt : Bs) : gQ zs (db zs h nm nt) := vf zs 0 none (fun j => by rw [Nat.zero_add]) (fun x hx => by cases hx)
theorem pn {n : Nat} : ∀ (l seen : List ai), di n seen l = true -> l.Pairwise (fun x p => cE p x = false) /\ ∀ p ∈ l, seen.any (cE p) = false
 | [], _, _ => ⟨List.Pairwise.nil, fun p hp => by cases hp⟩
 | x :: t, seen, h => by
  unfold di at h
  simp only [Bool.and_eq_true, Bool.not_eq_true', Bool.or_eq_false_iff] at h
  obtain ⟨h1, h2⟩ := pn t _ h.2
  refine ⟨List.Pairwise.cons (fun p hp => ?_) h1, fun p hp => ?_⟩
  . have := h2 p hp
    rw [List.any_append] at this
    simp only [Bool.or_eq_false_iff, List.any_cons, List.any_nil, Bool.or_false] at this
    exact this.2
  . rcases List.mem_cons.1 hp with rfl | hp
    . exact h.1.1.2
    . have := h2 p hp
      rw [List.any_append] at this
      simp only [Bool.or_eq_false_iff] at this
      exact this.1
theorem zm {w : bt} (h : aX w = true) : w.zones.Pairwise (fun x p => cE p x = false) := by
 unfold aX jb at h
 simp only [Bool.and_eq_true] at h
 exact (pn _ _ h.1.2.1.2).1
theorem vP : ∀ {zs : List ai}, zs.Pairwise (fun x p => cE p x = false) -> ∀ {p q : ai}, p ∈ zs -> q ∈ zs -> p.host = q.host -> p.zone.apex = q.zone.apex -> p = q
 | [], _, p, q, hp, _, _, _ => by cases hp
 | x :: t, h, p, q, hp, hq, e1, e2 => by
  cases h with | cons h1 h2 =>
  rcases List.mem_cons.1 hp with hp' | hp'
  . rcases List.mem_cons.1 hq with hq' | hq'
    . rw [hp', hq']
    . have := h1 q hq'; rw [<- hp'] at this; unfold cE at this; simp [e1, e2] at this
  . rcases List.mem_cons.1 hq with hq' | hq'
    . have := h1 p hp'; rw [<- hq'] at this; unfold cE at this; simp [e1, e2] at this
    . exact vP h2 hp' hq' e1 e2
theorem Fi {a b s : Bs} (ha : an s a = true) (hb : an s b = true) (h : iy a = iy b) : a = b := by
 have h1 := (cJ _ _).1 ha
 have h2 := (cJ _ _).1 hb
 refine o9 ?_
 have hl : (back a).length = (back b).length := by
  unfold iy at h
  rw [back_eq, back_eq, List.length_reverse, List.length_reverse]; omega
 obtain ⟨x, hx⟩ := h1
 obtain ⟨y, hy⟩ := h2
 exact (List.append_inj (hx.trans hy.symm) hl).1
def fQ (zs : List ai) (K : Int) (q : av) : Option (Nat × ai) := match (if (q.type == 6) = true then db zs K q.name q.name else none) with
 | some x => some x
 | none => db zs K q.name []
def iu (zs : List ai) (K : Int) (q : av) : Ans := match fQ zs K q with
 | none => ⟨7, [], []⟩
 | some x => (aZ x.2.zone q).1
structure xg (zs : List ai) : Prop where
 valid : ∀ p ∈ zs, af p.zone.apex = true
 pair : zs.Pairwise (fun x p => cE p x = false)
theorem yG {zs : List ai} {K : Int} {nm nt : Bs} {x : Nat × ai} (h : db zs K nm nt = some x) : x.2 ∈ zs /\ dA K nm nt x.2 = true /\ ∀ p ∈ zs, dA K nm nt p = true -> kP p <= kP x.2 := by
 obtain ⟨h1, _, h3⟩ := yZ zs 0 none x h
 rcases h1 with h1 | h1
 . cases h1
 . exact ⟨h1.1, h1.2, h3⟩
theorem ja {K : Int} (hK : 0 <= K) {nm nt : Bs} {p : ai} : dA K nm nt p = true ↔ p.host = K /\ p.zone.apex ≠ nt /\ an nm p.zone.apex = true := by
 unfold dA
 rw [decide_eq_true hK]
 simp
 constructor
 . rintro ⟨⟨h1, h2⟩, h3⟩; exact ⟨h1, h2, h3⟩
 . rintro ⟨h1, h2, h3⟩; exact ⟨⟨h1, h2⟩, h3⟩
theorem Du {zs : List ai} (hA : xg zs) {K : Int} {q : av} (hn : af q.name = true) {z : ao} : z ∈ bN zs K q ↔ ∃ p ∈ zs, p.host = K /\ an q.name p.zone.apex = true /\ p.zone = z := by
 unfold bN
 rw [List.mem_map]
 constructor
 . rintro ⟨p, hp, rfl⟩
   obtain ⟨h1, h2⟩ := List.mem_filter.1 hp
   unfold jQ at h2
   simp only [Bool.and_eq_true, decide_eq_true_eq] at h2
   exact ⟨p, h1, h2.1, (sn hn (hA.valid p h1)) ▸ h2.2, rfl⟩
 . rintro ⟨p, hp, h1, h2, rfl⟩
   refine ⟨p, List.mem_filter.2 ⟨hp, ?_⟩, rfl⟩
   unfold jQ
   simp only [Bool.and_eq_true, decide_eq_true_eq]
   exact ⟨h1, (sn hn (hA.valid p hp)).trans h2⟩
theorem BP {zs : List ai} (hA : xg zs) {K : Int} {q : av} : (bN zs K q).Pairwise (fun a b => a.apex ≠ b.apex) := by
 unfold bN
 rw [List.pairwise_map]
 have h := hA.pair.filter (jQ K q)
 refine List.Pairwise.imp_of_mem ?_ h
 intro a b ha hb hab e
 have ha' := (List.mem_filter.1 ha).2
 have hb' := (List.mem_filter.1 hb).2
 unfold jQ at ha' hb'
 simp only [Bool.and_eq_true, decide_eq_true_eq] at ha' hb'
 unfold cE at hab
 simp [ha'.1, hb'.1, e] at hab
theorem Bo {zs : List ai} (hA : xg zs) {K : Int} (hK : 0 <= K) {q : av} (hn : af q.name = true) : lg q (dm gD (bN zs K q)) = (fQ zs K q).map fun x => x.2.zone := by
 have hperm := l6 (rq (bN zs K q))
 have hsort := xC (rq (bN zs K q))
 have hpair : (dm gD (bN zs K q)).Pairwise (fun a b => a.apex ≠ b.apex) := (hperm.pairwise_iff (fun {x y} h => Ne.symm h)).2 (BP hA)
 have hmem : ∀ z, z ∈ dm gD (bN zs K q) ↔ ∃ p ∈ zs, p.host = K /\ an q.name p.zone.apex = true /\ p.zone = z := fun z => hperm.mem_iff.trans (Du hA hn)
 generalize dm gD (bN zs K q) = L at *
 have hdep : ∀ z ∈ L, cr z.apex = iy z.apex := fun z hz => by
  obtain ⟨p, hp, _, _, rfl⟩ := (hmem z).1 hz
  exact nT (hA.valid p hp)
 have hsrt : ∀ {z t}, L = z :: t -> ∀ y ∈ t, iy y.apex <= iy z.apex := fun {z t} e y hy => by
  subst e
  cases hsort with | cons h1 h2 =>
  have := h1 y hy
  unfold gD at this
  rw [hdep z (by simp), hdep y (by simp [hy])] at this
  omega
 have one : ∀ {p p' : ai}, p ∈ zs -> p' ∈ zs -> p.host = K -> p'.host = K -> an q.name p.zone.apex = true -> an q.name p'.zone.apex = true -> kP p = kP p' -> p = p' := fun hp hp' h1 h2 u1 u2 hk => vP hA.pair hp hp' (h1.trans h2.symm) (Fi u1 u2 hk)
 have ne0 : ∀ p ∈ zs, p.zone.apex ≠ [] := fun p hp => xp (hA.valid p hp)
 unfold fQ
 cases L with
 | nil =>
  have no : ∀ nt, db zs K q.name nt = none := fun nt => by
   unfold db
   rw [nD]
   refine ⟨rfl, fun p hp => ?_⟩
   cases hc : dA K q.name nt p with
   | false => rfl
   | true =>
    obtain ⟨h1, h2, h3⟩ := (ja hK).1 hc
    have := (hmem p.zone).2 ⟨p, hp, h1, h3, rfl⟩
    cases this
  rw [no, no]; simp [lg]
 | cons z t =>
  obtain ⟨pz, hpz, hzh, hzu, rfl⟩ := (hmem z).1 (List.mem_cons_self ..)
  have hmax : ∀ p ∈ zs, p.host = K -> an q.name p.zone.apex = true -> kP p <= kP pz := fun p hp h1 h2 => by
   have hm := (hmem p.zone).2 ⟨p, hp, h1, h2, rfl⟩
   rcases List.mem_cons.1 hm with e | hm
   . unfold kP; rw [e]; exact Int.le_refl _
   . exact hsrt rfl _ hm
  have found : ∀ nt (p : ai), p ∈ zs -> p.host = K -> an q.name p.zone.apex = true -> p.zone.apex ≠ nt -> (∀ p' ∈ zs, p'.host = K -> an q.name p'.zone.apex = true -> p'.zone.apex ≠ nt -> kP p' <= kP p) -> ∃ i, db zs K q.name nt = some (i, p) := fun nt p hp h1 h2 h3 hm => by
   cases hd : db zs K q.name nt with
   | none =>
    unfold db at hd
    rw [nD] at hd
    have := hd.2 p hp
    rw [(ja hK).2 ⟨h1, h3, h2⟩] at this; cases this
   | some x =>
    obtain ⟨m1, m2, m3⟩ := yG hd
    obtain ⟨k1, k2, k3⟩ := (ja hK).1 m2
    have g1 := m3 p hp ((ja hK).2 ⟨h1, h3, h2⟩)
    have g2 := hm x.2 m1 k1 k3 k2
    have : p = x.2 := one hp m1 h1 k1 h2 k3 (by omega)
    exact ⟨x.1, by rw [this]⟩
  obtain ⟨i0, hi0⟩ := found [] pz hpz hzh hzu (ne0 pz hpz) fun p hp h1 h2 _ => hmax p hp h1 h2
  rw [hi0]
  unfold lg
  dsimp only
  by_cases h6 : (q.type == 6) = true
  . rw [if_pos h6, h6, Bool.true_and]
    by_cases hap : (pz.zone.apex == q.name) = true
    . rw [if_pos hap]
      have hap' : pz.zone.apex = q.name := by simpa using hap
      cases t with
      | nil =>
       have : db zs K q.name q.name = none := by
        unfold db
        rw [nD]
        refine ⟨rfl, fun p hp => ?_⟩
        cases hc : dA K q.name q.name p with
        | false => rfl
        | true =>
         obtain ⟨h1, h2, h3⟩ := (ja hK).1 hc
         have := (hmem p.zone).2 ⟨p, hp, h1, h3, rfl⟩
         simp only [List.mem_singleton] at this
         exact absurd (by rw [this]; exact hap') h2
       rw [this]; rfl
      | cons y t =>
       obtain ⟨py, hpy, hyh, hyu, rfl⟩ := (hmem y).1 (by simp)
       have hne : py.zone.apex ≠ q.name := by
        cases hpair with | cons g1 g2 =>
        have := g1 py.zone (List.mem_cons_self ..)
        rw [hap'] at this
        exact Ne.symm this
       have hsrt2 : ∀ y' ∈ t, iy y'.apex <= iy py.zone.apex := fun y' hy' => by
        cases hsort with | cons g1 g2 =>
        cases g2 with | cons g3 g4 =>
        have := g3 y' hy'
        unfold gD at this
        rw [hdep py.zone (by simp), hdep y' (by simp [hy'])] at this
        omega
       obtain ⟨i1, hi1⟩ := found q.name py hpy hyh hyu hne fun p hp h1 h2 h3 => by
        have hm := (hmem p.zone).2 ⟨p, hp, h1, h2, rfl⟩
        rcases List.mem_cons.1 hm with e | hm
        . exact absurd (by rw [e]; exact hap') h3
        . rcases List.mem_cons.1 hm with e | hm
          . unfold kP; rw [e]; exact Int.le_refl _
          . exact hsrt2 _ hm
       rw [hi1]; rfl
    . rw [if_neg hap]
      have hap' : pz.zone.apex ≠ q.name := by simpa using hap
      obtain ⟨i1, hi1⟩ := found q.name pz hpz hzh hzu hap' fun p hp h1 h2 _ => hmax p hp h1 h2
      rw [hi1]; rfl
  . rw [if_neg h6]
    have : (q.type == 6) = false := by simpa using h6
    rw [this, Bool.false_and]; rfl
end NP

set_option maxRecDepth 100000
namespace NP
open NQ Go
def ff (l : List ai) : List Bs := l.foldl (fun out p => if out.contains p.zone.apex = true then out else out ++ [p.zone.apex]) []
theorem sj (l : List ai) (p : ai) : ff (l ++ [p]) = if (ff l).contains p.zone.apex = true then ff l else ff l ++ [p.zone.apex] := by unfold ff; rw [List.foldl_append]; rfl
theorem Co (l : List ai) : (ff l).length <= l.length := by
 have key : ∀ (l : List ai) (out : List Bs), (l.foldl (fun out p => if out.contains p.zone.apex = true then out else out ++ [p.zone.apex]) out).length <= out.length + l.length := fun l => by
  induction l with
  | nil => intro out; simp
  | cons p t ih =>
   intro out
   refine Nat.le_trans (ih _) ?_
   dsimp only
   split <;> simp <;> omega
 have := key l []
 rw [List.length_nil, Nat.zero_add] at this
 exact this
theorem tw (a : Bs) (v : D) : ∀ m : List (Bs × D), (c7 a v m).map (·.1) = if (m.map (·.1)).contains a = true then m.map (·.1) else m.map (·.1) ++ [a]
 | [] => by simp [c7]
 | (b, x) :: t => by
  show (if a = b then _ else _ :: c7 a v t).map (·.1) = _
  by_cases h : a = b
  . subst h; simp
  . rw [if_neg h]
    simp only [List.map_cons, List.contains_cons]
    rw [tw a v t]
    have : (a == b) = false := by simpa using h
    rw [this, Bool.false_or]
    split <;> simp
theorem Gk (l : List ai) : (apx l).map (·.1) = ff l := by
 have key : ∀ (l : List ai) (m : List (Bs × D)), (l.foldl (fun m p => c7 p.zone.apex (.bool true) m) m).map (·.1) = l.foldl (fun out p => if out.contains p.zone.apex = true then out else out ++ [p.zone.apex]) (m.map (·.1)) := fun l => by
  induction l with
  | nil => intro m; rfl
  | cons p t ih => intro m; simp only [List.foldl_cons]; rw [ih, tw]
 exact key l []
theorem Iq (l : List ai) : (apx l).length = (ff l).length := by rw [<- Gk, List.length_map]
def lX (w : bt) : Bool := (w.zones.take 21).all (fun p => cN p.zone && decide (p.zone.apex.length <= 100)) && (w.hosts.take 71).all (fun h => decide (h.name.length <= 100)) && decide ((w.zones.length : Int) <= 20) && decide ((w.hosts.length : Int) <= 70) && decide ((w.hints.length : Int) <= 20) && decide ((w.anchor.data.length : Int) <= 20)
theorem FF {w : bt} (h : lX w = true) : jN w /\ w.hosts.length <= 70 /\ w.zones.length <= 20 /\ w.hints.length <= 20 := by
 unfold lX at h
 simp only [Bool.and_eq_true, decide_eq_true_eq, List.all_eq_true] at h
 obtain ⟨⟨⟨⟨⟨h1, h2⟩, h3⟩, h4⟩, h5⟩, h6⟩ := h
 have : w.zones.take 21 = w.zones := List.take_of_length_le (by omega)
 rw [this] at h1
 exact ⟨⟨by omega, by omega, by omega, fun p hp => (h1 p hp).1⟩, by omega, by omega, by omega⟩
end NP
namespace Go.Proofs.YtnbnldnfkikakaaGreatDoor
open NQ Go NP Go.RowKit
theorem Dt (l : List jd) (hl : l.length <= 100000) : NQ.Fn cx 56 [.slice 3 (l.map dq)] (.d (.bool (jq l))) [] := by
 refine aq ay mixed Tryz.func56 (by kernel_rfl) rfl (Nat.le_of_ble_eq_true rfl) ?_; conv => whnf
 rw [List.length_map]
 refine ab (fun h => ?_) (fun h => ?_) <;> (rw [h]; conv => whnf)
 . refine ae rfl ?_
   show AV.d (D.bool _) = AV.d (D.bool _)
   congr 2
   unfold jq
   simp at h
   simp; omega
 have hle : jq l = gX [] l := by unfold jq; simp at h; simp; omega
 rw [hle]
 refine ⟨Nat, fun k => ⟨[(0, .d (.slice 3 (l.map dq))), (3, .d (.int .i64 k))], []⟩, fun k => k <= l.length /\ gX ((l.take k).map (·.addr)) (l.drop k) = gX [] l, fun k => l.length - k,
  ⟨0, ⟨Nat.zero_le _, rfl⟩, ah.keep ⟨⟨rfl, rfl⟩, ⟨rfl, rfl⟩, trivial⟩ trivial⟩, fun k ⟨hk, hinv⟩ => ?_⟩
 conv => whnf
 refine ab (fun h1 => ?_) (fun h1 => ?_) <;> (rw [h1]; conv => whnf)
 . have hlt : k < l.length := by simpa using h1
   obtain ⟨x, hx⟩ : ∃ x, l[k]? = some x := ⟨_, List.getElem?_eq_getElem hlt⟩
   rw [tY hx] at hinv
   refine ⟨Int.natCast_nonneg k, dq x, au hx, ?_⟩
   conv => whnf
   (refine ⟨_, _, j2 x.name, ?_⟩; conv => whnf)
   cases hv : af x.name with
   | false =>
    conv => whnf
    refine ae rfl ?_
    rw [<- hinv, hv]; rfl
   | true =>
    conv => whnf
    (refine ⟨_, _, ze x.name hv, ?_⟩; conv => whnf)
    rw [hv, Ek hv] at hinv
    repeat' (first | (refine ab (fun h => ?_) (fun h => ?_) <;> (rw [h]; conv => whnf)) | fail)
    all_goals first
     | (refine ae rfl ?_; show AV.d (D.bool false) = AV.d (D.bool _); rw [<- hinv]; clear hinv hle; unfold dR; simp_all; done)
     | skip
    all_goals first
     | (refine ae rfl ?_; show AV.d (D.bool false) = AV.d (D.bool _); rw [<- hinv]; clear hinv hle; unfold dR; simp_all; omega)
     | skip
    refine ⟨Nat, fun j => ⟨[(0, .d (.slice 3 (l.map dq))), (3, .d (.int .i64 k)), (4, .ptr 4 0), (6, .d (.int .i64 j))], [(4, .box ((dq x).map .d))]⟩, fun j => j <= k /\ ((l.take j).map (·.addr)).contains x.addr = false, fun j => k - j,
     ⟨0, ⟨Nat.zero_le _, rfl⟩, ah.keep ⟨⟨rfl, rfl⟩, ⟨rfl, rfl⟩, ⟨rfl, rfl⟩, ⟨rfl, rfl⟩, trivial⟩ ⟨⟨rfl, rfl⟩, trivial⟩⟩, fun j ⟨hj, hno⟩ => ?_⟩
    conv => whnf
    refine ab (fun h2 => ?_) (fun h2 => ?_) <;> (rw [h2]; conv => whnf)
    . have hjk : j < k := by simpa using h2
      obtain ⟨y, hy⟩ : ∃ y, l[j]? = some y := ⟨_, List.getElem?_eq_getElem (by omega)⟩
      try (refine ⟨(by kernel_rfl : aJ _ _ = true), ?_⟩; conv => whnf)
      refine ⟨Int.natCast_nonneg j, dq y, au hy, ?_⟩
      conv => whnf
      refine ab (fun h3 => ?_) (fun h3 => ?_) <;> (rw [h3]; conv => whnf)
      . refine ae rfl ?_
        show AV.d (D.bool false) = AV.d (D.bool _)
        have : ((l.take k).map (·.addr)).contains x.addr = true := by
         rw [List.contains_iff_mem, List.mem_map]
         exact ⟨y, List.mem_of_getElem? (i := j) (by rw [List.getElem?_take, if_pos hjk]; exact hy), by simpa using h3⟩
        rw [<- hinv, this]; simp
      . refine ⟨j + 1, ⟨hjk, ?_⟩, by (show k - (j + 1) < k - j; omega), ah.keep ⟨⟨rfl, rfl⟩, ⟨rfl, rfl⟩, ⟨rfl, rfl⟩, ⟨aj (by omega), rfl⟩, trivial⟩ ⟨⟨rfl, rfl⟩, trivial⟩⟩
        rw [bw hy, List.map_append]
        have h3' : (x.addr == y.addr) = false := by
         rw [<- Bool.not_eq_true] at h3 ⊢
         intro e; apply h3; simp at e ⊢; exact e.symm
        simp only [List.map_cons, List.map_nil]
        rw [Bool.eq_false_iff] at hno h3' ⊢
        simp only [ne_eq, List.contains_iff_mem, List.mem_append, List.mem_singleton, beq_iff_eq] at hno h3' ⊢
        rintro (e | e)
        . exact hno e
        . exact h3' e
    . obtain rfl : j = k := by simp at h2; omega
      refine ⟨j + 1, ⟨hlt, ?_⟩, by (show l.length - (j + 1) < l.length - j; omega), ah.keep ⟨⟨rfl, rfl⟩, ⟨aj (by omega), rfl⟩, trivial⟩ trivial⟩
      rw [bw hx, List.map_append, <- hinv, hno]
      clear hinv hle
      show _ = (_ && _ && _)
      unfold dR
      simp_all
      try omega
 . obtain rfl : k = l.length := by simp at h1; omega
   refine ae rfl ?_
   rw [<- hinv, List.drop_length]; rfl
theorem Fo (l : List jd) (a : Int) (hl : l.length <= 100000) : NQ.Fn cx 45 [.slice 3 (l.map dq), .int .i64 a] (.d (.int .i64 (fM l a))) [] := by
 refine aq ay mixed Tryz.func45 (by kernel_rfl) rfl (Nat.le_of_ble_eq_true rfl) ?_; conv => whnf
 refine ⟨Nat, fun k => ⟨[(0, .d (.slice 3 (l.map dq))), (1, .d (.int .i64 a)), (5, .d (.int .i64 k))], []⟩, fun k => k <= l.length /\ ∀ j y, j < k -> l[j]? = some y -> (y.addr == a) = false, fun k => l.length - k,
  ⟨0, ⟨Nat.zero_le _, fun j y h => by omega⟩, ah.keep ⟨⟨rfl, rfl⟩, ⟨rfl, rfl⟩, ⟨rfl, rfl⟩, trivial⟩ trivial⟩, fun k ⟨hk, hall⟩ => ?_⟩
 conv => whnf
 refine ab (fun h1 => ?_) (fun h1 => ?_) <;> (rw [h1]; conv => whnf)
 . have hlt : k < l.length := by simpa using h1
   obtain ⟨x, hx⟩ : ∃ x, l[k]? = some x := ⟨_, List.getElem?_eq_getElem hlt⟩
   refine ⟨Int.natCast_nonneg k, dq x, au hx, ?_⟩
   conv => whnf
   refine ab (fun h2 => ?_) (fun h2 => ?_) <;> (rw [h2]; conv => whnf)
   . refine ae rfl ?_
     have : l.findIdx? (fun h => h.addr == a) = some k := by
      rw [List.findIdx?_eq_some_iff_getElem]
      obtain ⟨g1, g2⟩ := List.getElem?_eq_some_iff.1 hx
      refine ⟨g1, by rw [g2]; exact h2, fun j hj => ?_⟩
      have := hall j (l[j]) hj (List.getElem?_eq_getElem (by omega))
      rw [this]; decide
     unfold fM; rw [this]; rfl
   . refine ⟨k + 1, ⟨hlt, fun j y hj hy => ?_⟩, by (show l.length - (k + 1) < l.length - k; omega), ah.keep ⟨⟨rfl, rfl⟩, ⟨rfl, rfl⟩, ⟨aj (by omega), rfl⟩, trivial⟩ trivial⟩
     rcases Nat.lt_succ_iff_lt_or_eq.1 hj with hj | rfl
     . exact hall j y hj hy
     . rw [hx] at hy; cases hy; exact h2
 . obtain rfl : k = l.length := by simp at h1; omega
   refine ae rfl ?_
   have : l.findIdx? (fun h => h.addr == a) = none := by
    rw [List.findIdx?_eq_none_iff]
    intro x hx
    obtain ⟨i, hi⟩ := List.getElem?_of_mem hx
    exact hall i x (List.getElem?_eq_some_iff.1 hi).1 hi
   unfold fM; rw [this]; rfl
theorem CZ (s : gI) (hints : List Int) (hl : hints.length <= 100000) : NQ.Fn cx 57 [.agg (kK s), .slice 1 (hints.map cq)] (.d (.bool (lf s hints))) [] := by
 refine aq ay mixed Tryz.func57 (by kernel_rfl) rfl (Nat.le_of_ble_eq_true rfl) ?_; conv => whnf
 refine ⟨Nat, fun k => ⟨[(1, .d (.slice 1 (hints.map cq))), (2, .ptr 2 0), (5, .d (.int .i64 k))], [(2, .box ((kK s).map .d))]⟩, fun k => k <= hints.length /\ (hints.take k).all dR = true, fun k => hints.length - k,
  ⟨0, ⟨Nat.zero_le _, rfl⟩, ah.keep ⟨⟨rfl, rfl⟩, ⟨rfl, rfl⟩, ⟨rfl, rfl⟩, trivial⟩ ⟨⟨rfl, rfl⟩, trivial⟩⟩, fun k ⟨hk, hall⟩ => ?_⟩
 conv => whnf
 refine ab (fun h1 => ?_) (fun h1 => ?_) <;> (rw [h1]; conv => whnf)
 . have hlt : k < hints.length := by simpa using h1
   obtain ⟨x, hx⟩ : ∃ x, hints[k]? = some x := ⟨_, List.getElem?_eq_getElem hlt⟩
   refine ⟨Int.natCast_nonneg k, cq x, au hx, ?_⟩
   conv => whnf
   have no : dR x = false -> lf s hints = false := fun hb => by
    have : hints.all dR = false := by
     rw [<- Bool.not_eq_true, List.all_eq_true]
     intro hh
     rw [hh x (List.mem_of_getElem? hx)] at hb; cases hb
    unfold lf; rw [this]; simp
   refine ab (fun h2 => ?_) (fun h2 => ?_) <;> (rw [h2]; conv => whnf)
   . refine ae rfl ?_
     rw [no (by unfold dR; simp at h2 ⊢; omega)]; rfl
   . refine ⟨Int.natCast_nonneg k, cq x, au hx, ?_⟩
     conv => whnf
     refine ab (fun h3 => ?_) (fun h3 => ?_) <;> (rw [h3]; conv => whnf)
     . refine ae rfl ?_
       rw [no (by unfold dR; simp at h2 h3 ⊢; omega)]; rfl
     . refine ⟨k + 1, ⟨hlt, ?_⟩, by (show hints.length - (k + 1) < hints.length - k; omega), ah.keep ⟨⟨rfl, rfl⟩, ⟨rfl, rfl⟩, ⟨aj (by omega), rfl⟩, trivial⟩ ⟨⟨rfl, rfl⟩, trivial⟩⟩
       rw [bw hx, List.all_append, hall]
       simp at h2 h3
       simp [dR]; omega
 . obtain rfl : k = hints.length := by simp at h1; omega
   rw [List.take_length] at hall
   (refine ⟨_, _, xE s, ?_⟩; conv => whnf)
   repeat' (first | (refine ab (fun h => ?_) (fun h => ?_) <;> (rw [h]; conv => whnf)) | fail)
   all_goals (refine ae rfl ?_; show AV.d (D.bool _) = AV.d (D.bool _); congr 2; (try simp only [List.length_map] at *); unfold lf; rw [hall]; simp only [*, if_true, if_false, Bool.false_eq_true, Bool.not_true, Bool.not_false, Bool.not_not, Bool.true_or, Bool.or_true, Bool.false_or, Bool.or_false, Bool.and_true, Bool.true_and, Bool.false_and, Bool.and_false])
theorem Cn (l : List ai) (hl : l.length <= 100000) : NQ.Fn cx 59 [.slice 3 (l.map aI)] (.d (.slice 1 ((ff l).map aB))) [] := by
 refine aq ay mixed Tryz.func59 (by kernel_rfl) rfl (Nat.le_of_ble_eq_true rfl) ?_; conv => whnf
 refine ⟨Nat, fun k => ⟨[(0, .d (.slice 3 (l.map aI))), (3, .own 100), (4, .d (.int .i64 k))], [(100, .row 9 1 ((ff (l.take k)).map aB))]⟩, fun k => k <= l.length, fun k => l.length - k,
  ⟨0, Nat.zero_le _, (ah.oa 3 100 1 9 1 rfl rfl (by decide)).trans (ah.keep ⟨⟨rfl, rfl⟩, ⟨rfl, rfl⟩, ⟨rfl, rfl⟩, trivial⟩ ⟨⟨rfl, rfl⟩, trivial⟩)⟩, fun k hk => ?_⟩
 conv => whnf
 refine ab (fun h1 => ?_) (fun h1 => ?_) <;> (rw [h1]; conv => whnf)
 . have hlt : k < l.length := by simpa using h1
   obtain ⟨x, hx⟩ : ∃ x, l[k]? = some x := ⟨_, List.getElem?_eq_getElem hlt⟩
   have hal : (ff (l.take k)).length <= k := by have := Co (l.take k); rw [List.length_take] at this; omega
   generalize hA : ff (l.take k) = A at *
   refine ⟨Nat × Bool, fun j => ⟨[(0, .d (.slice 3 (l.map aI))), (3, .own 100), (4, .d (.int .i64 k)), (5, .d (.bool j.2)), (6, .d (.int .i64 j.1))], [(100, .row 9 1 (A.map aB))]⟩, fun j => j.1 <= A.length /\ j.2 = (A.take j.1).contains x.zone.apex, fun j => A.length - j.1,
    ⟨(0, false), ⟨Nat.zero_le _, rfl⟩, ah.keep ⟨⟨rfl, rfl⟩, ⟨rfl, rfl⟩, ⟨rfl, rfl⟩, ⟨rfl, rfl⟩, ⟨rfl, rfl⟩, trivial⟩ ⟨⟨by rw [<- hA]; rfl, rfl⟩, trivial⟩⟩, fun ⟨j, f⟩ ⟨hj, hf⟩ => ?_⟩
   dsimp only at hj hf ⊢
   conv => whnf
   refine ab (fun h2 => ?_) (fun h2 => ?_) <;> (rw [h2]; conv => whnf)
   . have hjl : j < A.length := by simpa using h2
     obtain ⟨y, hy⟩ : ∃ y, A[j]? = some y := ⟨_, List.getElem?_eq_getElem hjl⟩
     (refine ⟨(by kernel_rfl : aJ _ _ = true), ?_⟩; conv => whnf)
     refine ab (fun h3 => ?_) (fun h3 => ?_) <;> (rw [h3]; conv => whnf)
     . refine ⟨(j + 1, true), ⟨hjl, ?_⟩, by (show A.length - (j + 1) < A.length - j; omega), ah.keep ⟨⟨rfl, rfl⟩, ⟨rfl, rfl⟩, ⟨rfl, rfl⟩, ⟨rfl, rfl⟩, ⟨aj (by omega), rfl⟩, trivial⟩ ⟨⟨rfl, rfl⟩, trivial⟩⟩
       dsimp only
       rw [bw hy, List.contains_append, <- hf, h3]; rfl
     . refine ⟨Int.natCast_nonneg j, by (show j < (A.map aB).length; rw [List.length_map]; exact hjl), ?_⟩
       conv => whnf
       refine ⟨aB y, au hy, ?_⟩
       conv => whnf
       refine ⟨Int.natCast_nonneg k, aI x, au hx, ?_⟩
       conv => whnf
       refine ⟨(j + 1, y == x.zone.apex), ⟨hjl, ?_⟩, by (show A.length - (j + 1) < A.length - j; omega), ah.keep ⟨⟨rfl, rfl⟩, ⟨rfl, rfl⟩, ⟨rfl, rfl⟩, ⟨rfl, rfl⟩, ⟨aj (by omega), rfl⟩, trivial⟩ ⟨⟨rfl, rfl⟩, trivial⟩⟩
       dsimp only
       rw [bw hy, List.contains_append, <- hf, h3, Bool.false_or]
       simp only [List.contains_cons, List.contains_nil, Bool.or_false]
       exact Bool.eq_iff_iff.2 ⟨fun h => by simp at h ⊢; exact h.symm, fun h => by simp at h ⊢; exact h.symm⟩
   . obtain rfl : j = A.length := by simp at h2; omega
     rw [List.take_length] at hf
     refine ab (fun h3 => ?_) (fun h3 => ?_) <;> (rw [h3]; conv => whnf)
     . have hc : A.contains x.zone.apex = false := by rw [<- hf]; simpa using h3
       refine ⟨Int.natCast_nonneg k, aI x, au hx, ?_⟩
       conv => whnf
       refine ⟨by (show (A.map aB).length + 1 <= _); simp; omega, by (show ((A.map aB).length + 1) * 16 <= _); simp; omega, ?_⟩
       conv => whnf
       refine ⟨k + 1, hlt, by (show l.length - (k + 1) < l.length - k; omega), ah.keep ⟨⟨rfl, rfl⟩, ⟨rfl, rfl⟩, ⟨aj (by omega), rfl⟩, trivial⟩ ⟨⟨?_, rfl⟩, trivial⟩⟩
       rw [bw hx, sj, hA, if_neg (by rw [hc]; simp), List.map_append]; rfl
     . have hc : A.contains x.zone.apex = true := by rw [<- hf]; simpa using h3
       refine ⟨k + 1, hlt, by (show l.length - (k + 1) < l.length - k; omega), ah.keep ⟨⟨rfl, rfl⟩, ⟨rfl, rfl⟩, ⟨aj (by omega), rfl⟩, trivial⟩ ⟨⟨?_, rfl⟩, trivial⟩⟩
       rw [bw hx, sj, hA, if_pos hc]; rfl
 . obtain rfl : k = l.length := by simp at h1; omega
   refine ae rfl ?_
   rw [List.take_length]; rfl
end Go.Proofs.YtnbnldnfkikakaaGreatDoor

set_option maxRecDepth 100000
namespace Go.Proofs.YtnbnldnfkikakaaGreatDoor
open NQ Go NP Go.RowKit
set_option maxHeartbeats 2000000 in
theorem mZ (w : bt) (h1 : w.hosts.length <= 100000) (h2 : w.zones.length <= 100000) (h3 : w.hints.length <= 100000) (h4 : ∀ p ∈ w.zones, p.zone.sets.length <= 100000) : NQ.Fn cx 20 [.agg (bD w)] (.d (.bool (aX w))) [] := by
 refine aq ay mixed Tryz.func20 (by kernel_rfl) rfl (Nat.le_of_ble_eq_true rfl) ?_; conv => whnf
 (refine ⟨_, _, Dt w.hosts h1, ?_⟩; conv => whnf)
 cases e1 : jq w.hosts with
 | false =>
  conv => whnf
  refine ae rfl ?_
  have : aX w = false := by unfold aX; rw [e1]; rfl
  rw [this]; rfl
 | true =>
 conv => whnf
 refine ab (fun g0 => ?_) (fun g0 => ?_) <;> (rw [g0]; conv => whnf)
 . refine ae rfl ?_
   have : aX w = false := by
    have e3 : decide ((w.zones.length : Int) <= 4000) = false := by
     have := of_decide_eq_true g0
     rw [List.length_map] at this
     exact decide_eq_false (by omega)
    unfold aX jb; rw [e3]; simp
   rw [this]; rfl
 (refine ⟨_, _, CZ w.anchor w.hints h3, ?_⟩; conv => whnf)
 cases e2 : lf w.anchor w.hints with
 | false =>
  conv => whnf
  refine ae rfl ?_
  have : aX w = false := by unfold aX; rw [e2]; simp
  rw [this]; rfl
 | true =>
 conv => whnf
 have hyes : aX w = (di w.hosts.length [] w.zones && decide (((apx w.zones).length : Int) <= 500)) := by
  have e3 : (w.zones.length : Int) <= 4000 := by
   have := of_decide_eq_false g0
   rw [List.length_map] at this
   omega
  unfold aX jb
  rw [e1, e2, decide_eq_true e3]; simp
 refine ⟨Nat, fun k => ⟨[(1, .ptr 1 0), (3, .d (.int .i64 k))], [(1, .box ((bD w).map .d))]⟩, fun k => k <= w.zones.length /\ di w.hosts.length (w.zones.take k) (w.zones.drop k) = di w.hosts.length [] w.zones, fun k => w.zones.length - k,
  ⟨0, ⟨Nat.zero_le _, rfl⟩, ah.keep ⟨⟨rfl, rfl⟩, ⟨rfl, rfl⟩, trivial⟩ ⟨⟨rfl, rfl⟩, trivial⟩⟩, fun k ⟨hk, hinv⟩ => ?_⟩
 conv => whnf
 refine ab (fun g1 => ?_) (fun g1 => ?_) <;> (rw [g1]; conv => whnf)
 . have hlt : k < w.zones.length := by simpa using g1
   obtain ⟨x, hx⟩ : ∃ x, w.zones[k]? = some x := ⟨_, List.getElem?_eq_getElem hlt⟩
   rw [se hx] at hinv
   refine ⟨Int.natCast_nonneg k, aI x, au hx, ?_⟩
   conv => whnf
   (refine ⟨_, _, vJ x.zone (h4 x (List.mem_of_getElem? hx)), ?_⟩; conv => whnf)
   have bad : (decide (x.host < 0) || decide (x.host >= (w.hosts.length : Int)) || (w.zones.take k).any (cE x) || !aR x.zone) = true -> aX w = false := fun hb => by
    rw [hyes, <- hinv, hb]; rfl
   refine ab (fun g2 => ?_) (fun g2 => ?_) <;> (rw [g2]; conv => whnf)
   . refine ae rfl ?_
     rw [bad (by simp_all)]; rfl
   refine ab (fun g3 => ?_) (fun g3 => ?_) <;> (rw [g3]; conv => whnf)
   . refine ae rfl ?_
     rw [bad (by simp_all)]; rfl
   refine ab (fun g4 => ?_) (fun g4 => ?_) <;> (rw [g4]; conv => whnf)
   . refine ae rfl ?_
     rw [bad (by (try simp only [List.length_map] at *); simp_all)]; rfl
   refine ⟨Nat, fun j => ⟨[(1, .ptr 1 0), (3, .d (.int .i64 k)), (4, .ptr 4 0), (6, .d (.int .i64 j))], [(1, .box ((bD w).map .d)), (4, .box ((aI x).map .d))]⟩, fun j => j <= k /\ (w.zones.take j).any (cE x) = false, fun j => k - j,
    ⟨0, ⟨Nat.zero_le _, rfl⟩, ah.keep ⟨⟨rfl, rfl⟩, ⟨rfl, rfl⟩, ⟨rfl, rfl⟩, ⟨rfl, rfl⟩, trivial⟩ ⟨⟨rfl, rfl⟩, ⟨rfl, rfl⟩, trivial⟩⟩, fun j ⟨hj, hno⟩ => ?_⟩
   conv => whnf
   refine ab (fun g5 => ?_) (fun g5 => ?_) <;> (rw [g5]; conv => whnf)
   . have hjk : j < k := by simpa using g5
     obtain ⟨y, hy⟩ : ∃ y, w.zones[j]? = some y := ⟨_, List.getElem?_eq_getElem (by omega)⟩
     (refine ⟨(by kernel_rfl : aJ _ _ = true), ?_⟩; conv => whnf)
     refine ⟨Int.natCast_nonneg j, aI y, au hy, ?_⟩
     conv => whnf
     have next : cE x y = false -> j + 1 <= k /\ (w.zones.take (j + 1)).any (cE x) = false := fun hs => ⟨hjk, by rw [bw hy, List.any_append, hno]; simp [hs]⟩
     refine ab (fun g6 => ?_) (fun g6 => ?_) <;> (rw [g6]; conv => whnf)
     . refine ⟨Int.natCast_nonneg j, aI y, au hy, ?_⟩
       conv => whnf
       refine ab (fun g7 => ?_) (fun g7 => ?_) <;> (rw [g7]; conv => whnf)
       . refine ae rfl ?_
         have : (w.zones.take k).any (cE x) = true := by
          rw [List.any_eq_true]
          refine ⟨y, List.mem_of_getElem? (i := j) (by rw [List.getElem?_take, if_pos hjk]; exact hy), ?_⟩
          simp at g6 g7
          simp [cE, g6, g7]
         rw [bad (by rw [this]; simp)]; rfl
       . exact ⟨j + 1, next (by unfold cE; simp at g7; rw [Bool.and_eq_false_iff]; right; simp; exact fun e => g7 e.symm), by (show k - (j + 1) < k - j; omega), ah.keep ⟨⟨rfl, rfl⟩, ⟨rfl, rfl⟩, ⟨rfl, rfl⟩, ⟨aj (by omega), rfl⟩, trivial⟩ ⟨⟨rfl, rfl⟩, ⟨rfl, rfl⟩, trivial⟩⟩
     . exact ⟨j + 1, next (by unfold cE; simp at g6; rw [Bool.and_eq_false_iff]; left; simp; exact fun e => g6 e.symm), by (show k - (j + 1) < k - j; omega), ah.keep ⟨⟨rfl, rfl⟩, ⟨rfl, rfl⟩, ⟨rfl, rfl⟩, ⟨aj (by omega), rfl⟩, trivial⟩ ⟨⟨rfl, rfl⟩, ⟨rfl, rfl⟩, trivial⟩⟩
   . obtain rfl : j = k := by simp at g5; omega
     refine ⟨j + 1, ⟨hlt, ?_⟩, by (show w.zones.length - (j + 1) < w.zones.length - j; omega), ah.keep ⟨⟨rfl, rfl⟩, ⟨aj (by omega), rfl⟩, trivial⟩ ⟨⟨rfl, rfl⟩, trivial⟩⟩
     rw [bw hx, <- hinv]
     clear hinv hyes bad
     have e1 : decide (x.host < 0) = false := g3
     have e2 : decide (x.host >= (w.hosts.length : Int)) = false := by (try simp only [List.length_map] at g4); exact g4
     have e3 : (!aR x.zone) = false := g2
     rw [e1, e2, e3, hno]; simp
 . obtain rfl : k = w.zones.length := by simp at g1; omega
   (refine ⟨_, _, Cn w.zones h2, ?_⟩; conv => whnf)
   refine ae rfl ?_
   show AV.d (D.bool _) = AV.d (D.bool _)
   congr 2
   rw [List.drop_length] at hinv
   rw [hyes, <- hinv, Iq]
   simp [di]
def BV : Nat -> List Nat := fun | 7 => [55555] | 12 => [55555] | _ => []
theorem wk (w : bt) (hz : (w.zones.take 21).all (fun p => cN p.zone && decide (p.zone.apex.length <= 100)) = true) (hh : (w.hosts.take 71).all (fun h => decide (h.name.length <= 100)) = true) (st : St) (hs : ah cx st ⟨[(1, .ptr 1 0)], [(1, .box ((bD w).map .d))]⟩) :
 vc cx Tryz.f11.ntmps BV (oz 3 ((Tryz.f11.body).getD .skip)) (fnQ cx Tryz.f11.results.toList (.d (.bool (lX w))) []) st := by
 conv => whnf
 refine ⟨_, hs, ?_⟩
 conv => whnf
 have e : lX w = (decide ((w.zones.length : Int) <= 20) && decide ((w.hosts.length : Int) <= 70) && decide ((w.hints.length : Int) <= 20) && decide ((w.anchor.data.length : Int) <= 20)) := by
  unfold lX; rw [hz, hh]; rfl
 repeat' (first | (refine ab (fun h => ?_) (fun h => ?_) <;> (rw [h]; conv => whnf)) | fail)
 all_goals (refine ae rfl ?_; show AV.d (D.bool _) = AV.d (D.bool _); congr 2; (try simp only [List.length_map] at *); rw [e]; simp only [*, if_true, if_false, Bool.false_eq_true, Bool.not_true, Bool.not_false, Bool.not_not, Bool.true_or, Bool.or_true, Bool.false_or, Bool.or_false, Bool.and_true, Bool.true_and, Bool.false_and, Bool.and_false])
theorem yC (w : bt) (hz : (w.zones.take 21).all (fun p => cN p.zone && decide (p.zone.apex.length <= 100)) = true) (st : St) (hs : ah cx st ⟨[(1, .ptr 1 0)], [(1, .box ((bD w).map .d))]⟩) :
 vc cx Tryz.f11.ntmps BV (oz 2 ((Tryz.f11.body).getD .skip)) (fnQ cx Tryz.f11.results.toList (.d (.bool (lX w))) []) st := by
 conv => whnf
 refine ⟨_, hs, ?_⟩
 conv => whnf
 refine ⟨Nat, fun k => ⟨[(1, .ptr 1 0), (5, .d (.int .i64 k))], [(1, .box ((bD w).map .d))]⟩, fun k => k <= w.hosts.length /\ k <= 71 /\ (w.hosts.take k).all (fun h => decide (h.name.length <= 100)) = true, fun k => w.hosts.length - k,
  ⟨0, ⟨Nat.zero_le _, Nat.zero_le _, rfl⟩, ah.keep ⟨⟨rfl, rfl⟩, ⟨rfl, rfl⟩, trivial⟩ ⟨⟨rfl, rfl⟩, trivial⟩⟩, fun k ⟨hk, hk2, hall⟩ => ?_⟩
 conv => whnf
 refine ab (fun g1 => ?_) (fun g1 => ?_) <;> (rw [g1]; conv => whnf)
 . have hlt : k < w.hosts.length := by simpa using g1
   obtain ⟨x, hx⟩ : ∃ x, w.hosts[k]? = some x := ⟨_, List.getElem?_eq_getElem hlt⟩
   refine ab (fun g2 => ?_) (fun g2 => ?_) <;> (rw [g2]; conv => whnf)
   . have hk3 : k < 71 := by simp at g2; omega
     refine ⟨Int.natCast_nonneg k, dq x, au hx, ?_⟩
     conv => whnf
     refine ab (fun g4 => ?_) (fun g4 => ?_) <;> (rw [g4]; conv => whnf)
     . refine ae rfl ?_
       have : (w.hosts.take 71).all (fun h => decide (h.name.length <= 100)) = false := by
        rw [<- Bool.not_eq_true, List.all_eq_true]
        intro h
        have := h x (List.mem_of_getElem? (i := k) (by rw [List.getElem?_take, if_pos hk3]; exact hx))
        simp at g4 this; omega
       have : lX w = false := by unfold lX; rw [this]; simp
       rw [this]; rfl
     . refine ⟨k + 1, ⟨hlt, by omega, ?_⟩, by (show w.hosts.length - (k + 1) < w.hosts.length - k; omega), ah.keep ⟨⟨rfl, rfl⟩, ⟨aj (by omega), rfl⟩, trivial⟩ ⟨⟨rfl, rfl⟩, trivial⟩⟩
       rw [bw hx, List.all_append, hall]
       simp at g4
       simp; omega
   . have : k = 71 := by simp at g2; omega
     subst this
     exact wk w hz hall _ (ah.keep ⟨⟨rfl, rfl⟩, trivial⟩ ⟨⟨rfl, rfl⟩, trivial⟩)
 . obtain rfl : k = w.hosts.length := by simp at g1; omega
   exact wk w hz (by rw [List.take_length] at hall; rw [List.take_of_length_le hk2]; exact hall) _ (ah.keep ⟨⟨rfl, rfl⟩, trivial⟩ ⟨⟨rfl, rfl⟩, trivial⟩)
theorem H6 (w : bt) : NQ.Fn cx 11 [.agg (bD w)] (.d (.bool (lX w))) [] := by
 refine cH BV ay mixed Tryz.func11 (by kernel_rfl) rfl (Nat.le_of_ble_eq_true rfl) ?_
 conv => whnf
 refine ⟨Nat, fun k => ⟨[(1, .ptr 1 0), (3, .d (.int .i64 k))], [(1, .box ((bD w).map .d))]⟩, fun k => k <= w.zones.length /\ k <= 21 /\ (w.zones.take k).all (fun p => cN p.zone && decide (p.zone.apex.length <= 100)) = true, fun k => w.zones.length - k,
  ⟨0, ⟨Nat.zero_le _, Nat.zero_le _, rfl⟩, ah.keep ⟨⟨rfl, rfl⟩, ⟨rfl, rfl⟩, trivial⟩ ⟨⟨rfl, rfl⟩, trivial⟩⟩, fun k ⟨hk, hk2, hall⟩ => ?_⟩
 conv => whnf
 have no : ∀ p, w.zones[k]? = some p -> k < 21 -> (cN p.zone && decide (p.zone.apex.length <= 100)) = false -> lX w = false := fun p hp hk hb => by
  have : (w.zones.take 21).all (fun p => cN p.zone && decide (p.zone.apex.length <= 100)) = false := by
   rw [<- Bool.not_eq_true, List.all_eq_true]
   intro h
   rw [h p (List.mem_of_getElem? (i := k) (by rw [List.getElem?_take, if_pos hk]; exact hp))] at hb; cases hb
  unfold lX; rw [this]; simp
 refine ab (fun g1 => ?_) (fun g1 => ?_) <;> (rw [g1]; conv => whnf)
 . have hlt : k < w.zones.length := by simpa using g1
   obtain ⟨x, hx⟩ : ∃ x, w.zones[k]? = some x := ⟨_, List.getElem?_eq_getElem hlt⟩
   refine ab (fun g2 => ?_) (fun g2 => ?_) <;> (rw [g2]; conv => whnf)
   . have hk3 : k < 21 := by simp at g2; omega
     refine ⟨Int.natCast_nonneg k, aI x, au hx, ?_⟩
     conv => whnf
     (refine ⟨_, _, IZ x.zone, ?_⟩; conv => whnf)
     refine ab (fun g3 => ?_) (fun g3 => ?_) <;> (rw [g3]; conv => whnf)
     . refine ae rfl ?_
       rw [no x hx hk3 (by simp_all)]; rfl
     refine ⟨Int.natCast_nonneg k, aI x, au hx, ?_⟩
     conv => whnf
     refine ab (fun g4 => ?_) (fun g4 => ?_) <;> (rw [g4]; conv => whnf)
     . refine ae rfl ?_
       rw [no x hx hk3 (by simp at g4; simp; omega)]; rfl
     . refine ⟨k + 1, ⟨hlt, by omega, ?_⟩, by (show w.zones.length - (k + 1) < w.zones.length - k; omega), ah.keep ⟨⟨rfl, rfl⟩, ⟨aj (by omega), rfl⟩, trivial⟩ ⟨⟨rfl, rfl⟩, trivial⟩⟩
       rw [bw hx, List.all_append, hall]
       simp at g3 g4
       simp [g3]; omega
   . have : k = 21 := by simp at g2; omega
     subst this
     exact yC w hall _ (ah.keep ⟨⟨rfl, rfl⟩, trivial⟩ ⟨⟨rfl, rfl⟩, trivial⟩)
 . obtain rfl : k = w.zones.length := by simp at g1; omega
   exact yC w (by rw [List.take_length] at hall; rw [List.take_of_length_le hk2]; exact hall) _ (ah.keep ⟨⟨rfl, rfl⟩, trivial⟩ ⟨⟨rfl, rfl⟩, trivial⟩)
theorem lp (zs : List ai) (host : Int) (nm nt : Bs) (hn : nm.length <= 60) (hz : ∀ p ∈ zs, af p.zone.apex = true) (hl : zs.length <= 100000) : NQ.Fn cx 51 [.slice 3 (zs.map aI), .int .i64 host, .str nm, .str nt] (.d (.int .i64 (xO (db zs host nm nt)))) [] := by
 refine aq ay mixed Tryz.func51 (by kernel_rfl) rfl (Nat.le_of_ble_eq_true rfl) ?_; conv => whnf
 refine ⟨Nat × Option (Nat × ai), fun x => ⟨[(0, .d (.slice 3 (zs.map aI))), (1, .d (.int .i64 host)), (2, .d (.str nm)), (3, .d (.str nt)), (9, .d (.int .i64 (xO x.2))), (10, .d (.int .i64 x.1))], []⟩,
  fun x => x.1 <= zs.length /\ gQ zs x.2 /\ dK (dA host nm nt) ky x.1 (zs.drop x.1) x.2 = db zs host nm nt, fun x => zs.length - x.1,
  ⟨(0, none), ⟨Nat.zero_le _, (fun x hx => by cases hx), rfl⟩, ah.keep ⟨⟨rfl, rfl⟩, ⟨rfl, rfl⟩, ⟨rfl, rfl⟩, ⟨rfl, rfl⟩, ⟨rfl, rfl⟩, ⟨rfl, rfl⟩, trivial⟩ trivial⟩, fun ⟨k, b⟩ ⟨hk, hb, hinv⟩ => ?_⟩
 dsimp only at hk hb hinv ⊢
 conv => whnf
 refine ab (fun h1 => ?_) (fun h1 => ?_) <;> (rw [h1]; conv => whnf)
 . have hlt : k < zs.length := by simpa using h1
   obtain ⟨p, hp⟩ : ∃ p, zs[k]? = some p := ⟨_, List.getElem?_eq_getElem hlt⟩
   have hpv := hz p (List.mem_of_getElem? hp)
   rw [wz hp] at hinv
   have skip : dA host nm nt p = false -> dK (dA host nm nt) ky (k + 1) (zs.drop (k + 1)) b = db zs host nm nt := fun hf => by
    rw [<- hinv]; unfold bG; rw [if_neg (by rw [hf]; simp)]
   refine ⟨Int.natCast_nonneg k, aI p, au hp, ?_⟩
   conv => whnf
   have next : ∀ b', b' = bG (dA host nm nt) ky k p b -> (k + 1 <= zs.length /\ gQ zs b' /\ dK (dA host nm nt) ky (k + 1) (zs.drop (k + 1)) b' = db zs host nm nt) := fun b' e => by
    rw [e]; exact ⟨hlt, hb.step hp, hinv⟩
   repeat' (first
    | (refine ab (fun h => ?_) (fun h => ?_) <;> (rw [h]; conv => whnf))
    | (refine ⟨Int.natCast_nonneg k, aI p, au hp, ?_⟩; conv => whnf)
    | (refine ⟨_, _, ju nm p.zone.apex hn (aS hpv), ?_⟩; conv => whnf)
    | fail)
   all_goals first
    | (refine ⟨(k + 1, b), next _ (by unfold bG; rw [if_neg (by unfold dA; simp_all; done)]), by (show zs.length - (k + 1) < zs.length - k; omega), ah.keep ⟨⟨rfl, rfl⟩, ⟨rfl, rfl⟩, ⟨rfl, rfl⟩, ⟨rfl, rfl⟩, ⟨rfl, rfl⟩, ⟨aj (by omega), rfl⟩, trivial⟩ trivial⟩; done)
    | skip
   all_goals
    have hokk : dA host nm nt p = true := by unfold dA; simp_all
    clear skip
    cases b with
    | none =>
     (refine ⟨(by kernel_rfl : aJ _ _ = true), ?_⟩; conv => whnf)
     exact ⟨(k + 1, some (k, p)), next _ (by unfold bG; rw [if_pos hokk]), by (show zs.length - (k + 1) < zs.length - k; omega), ah.keep ⟨⟨rfl, rfl⟩, ⟨rfl, rfl⟩, ⟨rfl, rfl⟩, ⟨rfl, rfl⟩, ⟨rfl, rfl⟩, ⟨aj (by omega), rfl⟩, trivial⟩ trivial⟩
    | some x =>
     have hx := hb x rfl
     have hxv := hz x.2 (List.mem_of_getElem? hx)
     (refine ⟨(by kernel_rfl : aJ _ _ = true), ?_⟩; conv => whnf)
     (refine ⟨_, _, pc p.zone.apex (by have := aS hpv; omega), ?_⟩; conv => whnf)
     refine ⟨Int.natCast_nonneg x.1, aI x.2, au hx, ?_⟩
     conv => whnf
     (refine ⟨_, _, pc x.2.zone.apex (by have := aS hxv; omega), ?_⟩; conv => whnf)
     refine ab (fun g2 => ?_) (fun g2 => ?_) <;> (rw [g2]; conv => whnf)
     . exact ⟨(k + 1, some (k, p)), next _ (by
        unfold bG; rw [if_pos hokk]; dsimp only
        rw [if_pos (by have := of_decide_eq_true g2; rw [List.length_map, List.length_map] at this; exact decide_eq_true this)]), by (show zs.length - (k + 1) < zs.length - k; omega), ah.keep ⟨⟨rfl, rfl⟩, ⟨rfl, rfl⟩, ⟨rfl, rfl⟩, ⟨rfl, rfl⟩, ⟨rfl, rfl⟩, ⟨aj (by omega), rfl⟩, trivial⟩ trivial⟩
     . exact ⟨(k + 1, some x), next _ (by
        unfold bG; rw [if_pos hokk]; dsimp only
        rw [if_neg (by have := of_decide_eq_false g2; rw [List.length_map, List.length_map] at this; intro h; exact this (of_decide_eq_true h))]), by (show zs.length - (k + 1) < zs.length - k; omega), ah.keep ⟨⟨rfl, rfl⟩, ⟨rfl, rfl⟩, ⟨rfl, rfl⟩, ⟨rfl, rfl⟩, ⟨rfl, rfl⟩, ⟨aj (by omega), rfl⟩, trivial⟩ trivial⟩
 . obtain rfl : k = zs.length := by simp at h1; omega
   refine ae rfl ?_
   rw [<- hinv, List.drop_length]; rfl
end Go.Proofs.YtnbnldnfkikakaaGreatDoor

set_option maxRecDepth 100000
namespace NP
open NQ Go
theorem km {zs : List ai} {K : Int} {q : av} {x : Nat × ai} (hK : 0 <= K) (h : fQ zs K q = some x) : zs[x.1]? = some x.2 /\ x.2 ∈ zs /\ x.2.host = K /\ an q.name x.2.zone.apex = true := by
 have key : ∀ nt, db zs K q.name nt = some x -> zs[x.1]? = some x.2 /\ x.2 ∈ zs /\ x.2.host = K /\ an q.name x.2.zone.apex = true := fun nt hd => by
  obtain ⟨h1, h2, _⟩ := yG hd
  obtain ⟨k1, _, k3⟩ := (ja hK).1 h2
  exact ⟨yH _ _ _ _ x hd, h1, k1, k3⟩
 unfold fQ at h
 split at h
 . rename_i y hy
   cases h
   split at hy
   . exact key _ hy
   . cases hy
 . exact key _ h
theorem Gl {z : ao} {q : av} (u : Use z q) : (aZ z q).2 = 0 := by rw [u.ans]
theorem wB {w : bt} {q : av} (hval : aX w = true) (hF : jN w) (hq : aL q = true) {K : Int} (hK : 0 <= K) :
 (match lg q (dm gD (bN w.zones K q)) with | none => ((⟨7, [], []⟩ : Ans), (0 : Int)) | some z => aZ z q) = (iu w.zones K q, 0) := by
 have hg := fP hval
 have hA : xg w.zones := ⟨fun p hp => (aP (hg p hp).1).apex, zm hval⟩
 rw [Bo hA hK (tI hq)]
 unfold iu
 cases h : fQ w.zones K q with
 | none => rfl
 | some x =>
  obtain ⟨h1, h2, h3, h4⟩ := km hK h
  have u : Use x.2.zone q := ⟨hF.few _ h2, (hg _ h2).1, hq, h4⟩
  exact Prod.ext rfl (Gl u)
end NP
namespace Go.Proofs.YtnbnldnfkikakaaGreatDoor
open NQ Go NP Go.RowKit
theorem qV (z : ao) (q : av) (hf : cN z = true) : NQ.Fn cx 75 [.agg (aA z), .agg (bq q)] (.tuple [.agg ((cB (aZ z q).1).map .d), .d (.int .i64 (aZ z q).2)]) [] := Ha hf q ▸ Bn z q hf
theorem CT (zs : List ai) (K : Int) (q : av) (hK : 0 <= K) (hn : af q.name = true) (hz : ∀ p ∈ zs, af p.zone.apex = true) (hf : ∀ p ∈ zs, cN p.zone = true) (hl : zs.length <= 100000) :
 NQ.Fn cx 46 [.slice 3 (zs.map aI), .int .i64 K, .agg (bq q)] (.agg ((cB (iu zs K q)).map .d)) [] := by
 refine aq ay mixed Tryz.func46 (by kernel_rfl) rfl (Nat.le_of_ble_eq_true rfl) ?_; conv => whnf
 refine ab (fun h1 => ?_) (fun h1 => ?_) <;> (rw [h1]; conv => whnf)
 . (refine ⟨_, _, lp zs K q.name q.name (aS hn) hz hl, ?_⟩; conv => whnf)
   cases hd : db zs K q.name q.name with
   | none =>
    have hs : fQ zs K q = db zs K q.name [] := by unfold fQ; rw [if_pos h1, hd]
    conv => whnf
    (refine ⟨_, _, lp zs K q.name [] (aS hn) hz hl, ?_⟩; conv => whnf)
    cases hd2 : db zs K q.name [] with
    | none =>
     conv => whnf
     refine ae rfl ?_
     unfold iu; rw [hs, hd2]; rfl
    | some x =>
     obtain ⟨g1, g2, g3, g4⟩ := km hK (hs.trans hd2)
     conv => whnf
     (refine ⟨(by kernel_rfl : aJ _ _ = true), ?_⟩; conv => whnf)
     refine ⟨Int.natCast_nonneg x.1, aI x.2, au g1, ?_⟩
     conv => whnf
     (refine ⟨_, _, qV x.2.zone q (hf _ g2), ?_⟩; conv => whnf)
     refine ae rfl ?_
     unfold iu; rw [hs, hd2]; rfl
   | some x =>
    have hs : fQ zs K q = some x := by unfold fQ; rw [if_pos h1, hd]
    obtain ⟨g1, g2, g3, g4⟩ := km hK hs
    conv => whnf
    (refine ⟨(by kernel_rfl : aJ _ _ = true), ?_⟩; conv => whnf)
    refine ⟨Int.natCast_nonneg x.1, aI x.2, au g1, ?_⟩
    conv => whnf
    (refine ⟨_, _, qV x.2.zone q (hf _ g2), ?_⟩; conv => whnf)
    refine ae rfl ?_
    unfold iu; rw [hs]; rfl
 . have hs : fQ zs K q = db zs K q.name [] := by unfold fQ; rw [if_neg (by rw [h1]; simp)]
   (refine ⟨_, _, lp zs K q.name [] (aS hn) hz hl, ?_⟩; conv => whnf)
   cases hd2 : db zs K q.name [] with
   | none =>
    conv => whnf
    refine ae rfl ?_
    unfold iu; rw [hs, hd2]; rfl
   | some x =>
    obtain ⟨g1, g2, g3, g4⟩ := km hK (hs.trans hd2)
    conv => whnf
    (refine ⟨(by kernel_rfl : aJ _ _ = true), ?_⟩; conv => whnf)
    refine ⟨Int.natCast_nonneg x.1, aI x.2, au g1, ?_⟩
    conv => whnf
    (refine ⟨_, _, qV x.2.zone q (hf _ g2), ?_⟩; conv => whnf)
    refine ae rfl ?_
    unfold iu; rw [hs, hd2]; rfl
theorem Il (w : bt) (a : Int) (q : av) (hF : jN w) : NQ.Fn cx 13 [.agg (bD w), .int .i64 a, .agg (bq q)] (.tuple [.agg ((cB (eQ w a q).1).map .d), .d (.int .i64 (eQ w a q).2)]) [] := by
 refine aq ay mixed Tryz.func13 (by kernel_rfl) rfl (Nat.le_of_ble_eq_true rfl) ?_; conv => whnf
 (refine ⟨_, _, mZ w (by have := hF.hosts; omega) (by have := hF.zones; omega) (by have := hF.hints; omega) (fun p hp => by have := (bP (hF.few p hp)).1; omega), ?_⟩; conv => whnf)
 (refine ⟨_, _, pP q, ?_⟩; conv => whnf)
 have bad : (aX w && aL q) = false -> eQ w a q = (dF, 1) := fun h => by unfold eQ; rw [if_pos h]
 refine ab (fun h1 => ?_) (fun h1 => ?_) <;> (rw [h1]; conv => whnf)
 . refine ae rfl ?_
   rw [bad (by simp_all)]; rfl
 refine ab (fun h2 => ?_) (fun h2 => ?_) <;> (rw [h2]; conv => whnf)
 . refine ae rfl ?_
   rw [bad (by simp_all)]; rfl
 have hval : aX w = true := by simpa using h1
 have hq : aL q = true := by simpa using h2
 have hg := fP hval
 have hask : eQ w a q = if fM w.hosts a < 0 then (dF, 4) else match lg q (dm gD (bN w.zones (fM w.hosts a) q)) with
  | none => (⟨7, [], []⟩, 0)
  | some z => aZ z q := by unfold eQ; exact if_neg (by rw [hval, hq]; simp)
 (refine ⟨_, _, Fo w.hosts a (by have := hF.hosts; omega), ?_⟩; conv => whnf)
 refine ab (fun h3 => ?_) (fun h3 => ?_) <;> (rw [h3]; conv => whnf)
 . refine ae rfl ?_
   rw [hask, if_pos (of_decide_eq_true h3)]; rfl
 have hK : ¬ fM w.hosts a < 0 := of_decide_eq_false h3
 rw [if_neg hK, wB hval hF hq (by omega)] at hask
 (refine ⟨_, _, CT w.zones (fM w.hosts a) q (by omega) (tI hq) (fun p hp => (aP (hg p hp).1).apex) hF.few (by have := hF.zones; omega), ?_⟩; conv => whnf)
 refine ae rfl ?_
 rw [hask]; rfl
theorem Fp (w : bt) (s : Bs) (hF : jN w) : NQ.Fn cx 17 [.agg (bD w), .str s] (.tuple [.d (.str (dP (aX w) w s).1), .d (.int .i64 (dP (aX w) w s).2)]) [] := by
 refine aq ay mixed Tryz.func17 (by kernel_rfl) rfl (Nat.le_of_ble_eq_true rfl) ?_; conv => whnf
 (refine ⟨_, _, mZ w (by have := hF.hosts; omega) (by have := hF.zones; omega) (by have := hF.hints; omega) (fun p hp => by have := (bP (hF.few p hp)).1; omega), ?_⟩; conv => whnf)
 (refine ⟨_, _, j2 s, ?_⟩; conv => whnf)
 have bad : (aX w && af s) = false -> dP (aX w) w s = ([], 1) := fun h => by unfold dP; rw [if_pos h]
 refine ab (fun h1 => ?_) (fun h1 => ?_) <;> (rw [h1]; conv => whnf)
 . refine ae rfl ?_
   rw [bad (by simp_all)]; rfl
 refine ab (fun h2 => ?_) (fun h2 => ?_) <;> (rw [h2]; conv => whnf)
 . refine ae rfl ?_
   rw [bad (by simp_all)]; rfl
 have hval : aX w = true := by simpa using h1
 have hs : af s = true := by simpa using h2
 have hz : ∀ p ∈ w.zones, af p.zone.apex = true := fun p hp => (aP (fP hval p hp).1).apex
 have hh : dP (aX w) w s = if (toH (db w.zones (-1) s [])).2 < 0 then ([], 4) else ((toH (db w.zones (-1) s [])).1, 0) := by
  unfold dP; rw [if_neg (by rw [hval, hs]; simp), Dv hs hz]
 rw [hh]
 (refine ⟨_, _, lp w.zones (-1) s [] (aS hs) hz (by have := hF.zones; omega), ?_⟩; conv => whnf)
 cases hd : db w.zones (-1) s [] with
 | none =>
  conv => whnf
  exact ae rfl rfl
 | some x =>
  conv => whnf
  refine ⟨Int.natCast_nonneg x.1, aI x.2, au (yH _ _ _ _ x hd), ?_⟩
  conv => whnf
  refine ae rfl ?_
  rw [if_neg (by have := (oX x.2.zone.apex).1; show ¬ cr x.2.zone.apex < 0; omega)]
  rfl
end Go.Proofs.YtnbnldnfkikakaaGreatDoor

set_option maxRecDepth 100000
namespace NP
open NQ Go
theorem zJ {p q : ai} (hp : aR p.zone = true) (hq : aR q.zone = true) : eM p q = (decide (gn p.zone > gn q.zone) || (decide (gn p.zone = gn q.zone) && decide (p.host < q.host))) := by
 unfold eM eH; rw [hp, hq]; rfl
theorem xv (zs : List ai) (q : av) (f : Nat) (a : Bs) : gS zs (dS zs) q (f + 1) a = match mo zs a with
 | none => (dF, false)
 | some x => if ((aZ x.2.zone q).1.kind != 4) = true then ((aZ x.2.zone q).1, true) else gS zs (dS zs) q f (aZ x.2.zone q).1.cut := by
 rw [gS, vz]
 cases h : mo zs a with
 | none => rfl
 | some x =>
  simp only [Option.map_some]
  rw [yO zs a x h]
end NP
namespace Go.Proofs.YtnbnldnfkikakaaGreatDoor
open NQ Go NP Go.RowKit
theorem yN (zs : List ai) (a : Bs) (hz : ∀ p ∈ zs, aR p.zone = true) (hl : zs.length <= 100000) : NQ.Fn cx 29 [.slice 3 (zs.map aI), .str a] (.d (.int .i64 (xO (mo zs a)))) [] := by
 refine aq ay mixed Tryz.func29 (by kernel_rfl) rfl (Nat.le_of_ble_eq_true rfl) ?_; conv => whnf
 refine ⟨Nat × Option (Nat × ai), fun x => ⟨[(0, .d (.slice 3 (zs.map aI))), (1, .d (.str a)), (5, .d (.int .i64 (xO x.2))), (6, .d (.int .i64 x.1))], []⟩,
  fun x => x.1 <= zs.length /\ gQ zs x.2 /\ dK (fun p => p.zone.apex == a) eM x.1 (zs.drop x.1) x.2 = mo zs a, fun x => zs.length - x.1,
  ⟨(0, none), ⟨Nat.zero_le _, (fun x hx => by cases hx), rfl⟩, ah.keep ⟨⟨rfl, rfl⟩, ⟨rfl, rfl⟩, ⟨rfl, rfl⟩, ⟨rfl, rfl⟩, trivial⟩ trivial⟩, fun ⟨k, b⟩ ⟨hk, hb, hinv⟩ => ?_⟩
 dsimp only at hk hb hinv ⊢
 conv => whnf
 refine ab (fun h1 => ?_) (fun h1 => ?_) <;> (rw [h1]; conv => whnf)
 . have hlt : k < zs.length := by simpa using h1
   obtain ⟨p, hp⟩ : ∃ p, zs[k]? = some p := ⟨_, List.getElem?_eq_getElem hlt⟩
   have hpv := hz p (List.mem_of_getElem? hp)
   rw [wz hp] at hinv
   have next : ∀ b', b' = bG (fun p => p.zone.apex == a) eM k p b -> (k + 1 <= zs.length /\ gQ zs b' /\ dK (fun p => p.zone.apex == a) eM (k + 1) (zs.drop (k + 1)) b' = mo zs a) := fun b' e => by
    rw [e]; exact ⟨hlt, hb.step hp, hinv⟩
   refine ⟨Int.natCast_nonneg k, aI p, au hp, ?_⟩
   conv => whnf
   refine ab (fun h2 => ?_) (fun h2 => ?_) <;> (rw [h2]; conv => whnf)
   . exact ⟨(k + 1, b), next _ (by unfold bG; rw [if_neg (by simpa using h2)]), by (show zs.length - (k + 1) < zs.length - k; omega), ah.keep ⟨⟨rfl, rfl⟩, ⟨rfl, rfl⟩, ⟨rfl, rfl⟩, ⟨aj (by omega), rfl⟩, trivial⟩ trivial⟩
   have ha : (p.zone.apex == a) = true := by simpa using h2
   cases b with
   | none =>
    conv => whnf
    exact ⟨(k + 1, some (k, p)), next _ (by unfold bG; rw [if_pos ha]), by (show zs.length - (k + 1) < zs.length - k; omega), ah.keep ⟨⟨rfl, rfl⟩, ⟨rfl, rfl⟩, ⟨rfl, rfl⟩, ⟨aj (by omega), rfl⟩, trivial⟩ trivial⟩
   | some x =>
    have hx := hb x rfl
    have hxv := hz x.2 (List.mem_of_getElem? hx)
    have hnew := zJ hpv hxv
    conv => whnf
    refine ⟨Int.natCast_nonneg k, aI p, au hp, ?_⟩
    conv => whnf
    (refine ⟨_, _, rJ p.zone hpv, ?_⟩; conv => whnf)
    refine ⟨Int.natCast_nonneg x.1, aI x.2, au hx, ?_⟩
    conv => whnf
    (refine ⟨_, _, rJ x.2.zone hxv, ?_⟩; conv => whnf)
    (refine ⟨(by kernel_rfl : aJ _ _ = true), ?_⟩; conv => whnf)
    repeat' (first
     | (refine ab (fun h => ?_) (fun h => ?_) <;> (rw [h]; conv => whnf))
     | (refine ⟨Int.natCast_nonneg k, aI p, au hp, ?_⟩; conv => whnf)
     | (refine ⟨Int.natCast_nonneg x.1, aI x.2, au hx, ?_⟩; conv => whnf)
     | fail)
    all_goals first
     | (refine ⟨(k + 1, some (k, p)), next _ (by unfold bG; rw [if_pos ha]; dsimp only; rw [if_pos (by rw [hnew]; simp_all; done)]), by (show zs.length - (k + 1) < zs.length - k; omega), ah.keep ⟨⟨rfl, rfl⟩, ⟨rfl, rfl⟩, ⟨rfl, rfl⟩, ⟨aj (by omega), rfl⟩, trivial⟩ trivial⟩; done)
     | (refine ⟨(k + 1, some x), next _ (by unfold bG; rw [if_pos ha]; dsimp only; rw [if_neg (by rw [hnew]; simp_all; done)]), by (show zs.length - (k + 1) < zs.length - k; omega), ah.keep ⟨⟨rfl, rfl⟩, ⟨rfl, rfl⟩, ⟨rfl, rfl⟩, ⟨aj (by omega), rfl⟩, trivial⟩ trivial⟩; done)
     | (refine ⟨(k + 1, some x), next _ (by unfold bG; rw [if_pos ha]; dsimp only; rw [if_neg (by rw [hnew]; simp_all; omega)]), by (show zs.length - (k + 1) < zs.length - k; omega), ah.keep ⟨⟨rfl, rfl⟩, ⟨rfl, rfl⟩, ⟨rfl, rfl⟩, ⟨aj (by omega), rfl⟩, trivial⟩ trivial⟩; done)
 . obtain rfl : k = zs.length := by simp at h1; omega
   refine ae rfl ?_
   rw [<- hinv, List.drop_length]; rfl
theorem BX (zs : List ai) (q : av) (hg : mu zs) (hq : aL q = true) (hl : zs.length <= 100000) :
 NQ.Fn cx 27 [.slice 3 (zs.map aI), .agg (bq q)] (.tuple [.agg ((cB (bR zs q).1).map .d), .d (.int .i64 (if (bR zs q).2 = true then 0 else 34))]) [] := by
 refine aq ay mixed Tryz.func27 (by kernel_rfl) rfl (Nat.le_of_ble_eq_true rfl) ?_; conv => whnf
 have hz : ∀ p ∈ zs, aR p.zone = true := fun p hp => (hg p hp).2
 (refine ⟨_, _, yN zs [46] hz hl, ?_⟩; conv => whnf)
 refine ⟨Nat × Bs, fun x => ⟨[(0, .d (.slice 3 (zs.map aI))), (3, .ptr 3 0), (4, .ptr 4 0), (6, .d (.int .i64 (xO (mo zs x.2))))], [(3, .box ((bq q).map .d)), (4, .box [.d (.int .i64 0), .nil 5, .d (.str [])])]⟩,
  fun x => an q.name x.2 = true /\ (back q.name).length + 1 <= x.1 + (back x.2).length /\ gS zs (dS zs) q (x.1 + 1) x.2 = bR zs q, fun x => x.1,
  ⟨((back q.name).length + 1, [46]), ⟨pF q.name, by omega, rfl⟩, ah.keep ⟨⟨rfl, rfl⟩, ⟨rfl, rfl⟩, ⟨rfl, rfl⟩, ⟨rfl, rfl⟩, trivial⟩ ⟨⟨rfl, rfl⟩, ⟨rfl, rfl⟩, trivial⟩⟩, fun ⟨f, a⟩ ⟨hu, hf, hinv⟩ => ?_⟩
 dsimp only at hu hf hinv ⊢
 rw [xv] at hinv
 cases hc : mo zs a with
 | none =>
  rw [hc] at hinv
  conv => whnf
  refine ae rfl ?_
  rw [<- hinv]; rfl
 | some x =>
  rw [hc] at hinv
  have hx := yO zs a x hc
  have hg' := hg x.2 (List.mem_of_getElem? hx)
  conv => whnf
  (refine ⟨(by kernel_rfl : aJ _ _ = true), ?_⟩; conv => whnf)
  refine ⟨Int.natCast_nonneg x.1, aI x.2, au hx, ?_⟩
  conv => whnf
  (refine ⟨_, _, qV x.2.zone q hg'.1, ?_⟩; conv => whnf)
  dsimp only at hinv
  refine ab (fun h2 => ?_) (fun h2 => ?_) <;> (rw [h2]; conv => whnf)
  . have h2' : ((aZ x.2.zone q).1.kind != 4) = true := h2
    rw [if_pos h2'] at hinv
    refine ae rfl ?_
    rw [<- hinv]; rfl
  . have h2' : ((aZ x.2.zone q).1.kind != 4) = false := h2
    rw [if_neg (by rw [h2']; simp)] at hinv
    have hfi : dG a (dS zs) = some x.1 := by rw [vz, hc]; rfl
    obtain ⟨u, r1, r2, r3⟩ := pJ hg hq (nf zs) hu hf hfi hx h2'
    obtain ⟨f, rfl⟩ : ∃ g, f = g + 1 := ⟨f - 1, by omega⟩
    (refine ⟨_, _, yN zs (aZ x.2.zone q).1.cut hz hl, ?_⟩; conv => whnf)
    exact ⟨(f, (aZ x.2.zone q).1.cut), ⟨r1, by dsimp only; omega, hinv⟩, by (show f < f + 1; omega), ah.keep ⟨⟨rfl, rfl⟩, ⟨rfl, rfl⟩, ⟨rfl, rfl⟩, ⟨rfl, rfl⟩, trivial⟩ ⟨⟨rfl, rfl⟩, ⟨rfl, rfl⟩, trivial⟩⟩
set_option maxHeartbeats 1000000 in
theorem CE (w : bt) (q0 : av) (hF : jN w) : NQ.Fn cx 15 [.agg (bD w), .agg (bq q0)] (.tuple [.agg ((cB (dx w q0).1).map .d), .d (.int .i64 (dx w q0).2)]) [] := by
 refine cH (fun | 11 => [66666] | _ => []) ay mixed Tryz.func15 (by kernel_rfl) rfl (Nat.le_of_ble_eq_true rfl) ?_
 conv => whnf
 (refine ⟨_, _, mZ w (by have := hF.hosts; omega) (by have := hF.zones; omega) (by have := hF.hints; omega) (fun p hp => by have := (bP (hF.few p hp)).1; omega), ?_⟩; conv => whnf)
 (refine ⟨_, _, pP q0, ?_⟩; conv => whnf)
 have bad : (aX w && aL q0) = false -> dx w q0 = (dF, 1) := fun h => by unfold dx; rw [if_pos h]
 refine ab (fun h1 => ?_) (fun h1 => ?_) <;> (rw [h1]; conv => whnf)
 . refine ae rfl ?_
   rw [bad (by simp_all)]; rfl
 refine ab (fun h2 => ?_) (fun h2 => ?_) <;> (rw [h2]; conv => whnf)
 . refine ae rfl ?_
   rw [bad (by simp_all)]; rfl
 have hval : aX w = true := by simpa using h1
 have hq0 : aL q0 = true := by simpa using h2
 have hg : mu w.zones := fun p hp => ⟨hF.few p hp, (fP hval p hp).1⟩
 have htr : dx w q0 = eV w.zones 9 q0 [] := by unfold dx; rw [if_neg (by rw [hval, hq0]; simp)]
 refine ⟨av × List Signed, fun x => ⟨[(2, .ptr 2 0), (3, .ptr 3 0), (4, .ptr 4 0), (8, .own 8)], [(2, .box ((bD w).map .d)), (3, .box ((bq x.1).map .d)), (4, .box [.d (.int .i64 0), .nil 5, .d (.str [])]), (8, .row 63 5 (x.2.map ag))]⟩,
  fun x => aL x.1 = true /\ x.2.length <= 9 /\ eV w.zones (9 - x.2.length) x.1 x.2 = dx w q0, fun x => 9 - x.2.length,
  ⟨(q0, []), ⟨hq0, by simp, by rw [htr]; rfl⟩, (ah.oa 8 8 5 63 5 rfl rfl (by decide)).trans (ah.keep ⟨⟨rfl, rfl⟩, ⟨rfl, rfl⟩, ⟨rfl, rfl⟩, ⟨rfl, rfl⟩, trivial⟩ ⟨⟨rfl, rfl⟩, ⟨rfl, rfl⟩, ⟨rfl, rfl⟩, ⟨rfl, rfl⟩, trivial⟩)⟩, fun ⟨q, kept⟩ ⟨hq, hkl, hinv⟩ => ?_⟩
 dsimp only at hq hkl hinv ⊢
 conv => whnf
 refine ab (fun h0 => ?_) (fun h0 => ?_) <;> (rw [h0]; conv => whnf)
 case refine_2 =>
  have h9 : kept.length = 9 := by simp at h0; omega
  rw [h9] at hinv
  refine ae rfl ?_
  rw [<- hinv]; rfl
 have hk8 : kept.length <= 8 := by simp at h0; omega
 obtain ⟨f, hf⟩ : ∃ f, 9 - kept.length = f + 1 := ⟨8 - kept.length, by omega⟩
 rw [hf] at hinv
 unfold eV at hinv
 (refine ⟨_, _, BX w.zones q hg hq (by have := hF.zones; omega), ?_⟩; conv => whnf)
 cases hok : (bR w.zones q).2 with
 | false =>
  rw [if_pos (by rw [hok]; rfl)] at hinv
  conv => whnf
  refine ae rfl ?_
  rw [<- hinv]; rfl
 | true =>
 rw [if_neg (by rw [hok]; simp)] at hinv
 conv => whnf
 obtain ⟨p, hpm, u, hpa, hp4⟩ := mD hg hq (x := (bR w.zones q).1) (by rw [<- hok])
 have hal : (bR w.zones q).1.sets.length <= 1000 := by rw [hpa]; exact rA u.few q
 refine ab (fun h2 => ?_) (fun h2 => ?_) <;> (rw [h2]; conv => whnf)
 . rw [if_pos h2] at hinv
   (refine ⟨(by kernel_rfl : hZ _ = true), ?_⟩; conv => whnf)
   repeat' (first
    | (refine ⟨by (show (kept.map ag).length + ((bR w.zones q).1.sets.map ag).length <= _; simp; omega), by (show ((kept.map ag).length + ((bR w.zones q).1.sets.map ag).length) * 80 <= _; simp; omega), ?_⟩; conv => whnf)
    | (refine ⟨by kernel_rfl, ?_⟩; conv => whnf)
    | (refine ⟨?_, ?_⟩ <;> (conv => whnf))
    | fail)
   refine ae rfl ?_
   rw [<- hinv]
   show AV.tuple _ = AV.tuple _
   simp [cB]; exact ⟨rfl, rfl⟩
 rw [if_neg (by rw [h2]; simp)] at hinv
 have hk3 : (aZ p.zone q).1.kind = 3 := by rw [<- hpa]; simpa using h2
 obtain ⟨s, R, d, hs, hsm, hst, hsd, hdv⟩ := u.y9 hk3
 rw [<- hpa] at hs
 rw [hs] at hinv
 simp only [List.head?_cons, hsd] at hinv
 rw [hs]
 refine ⟨by decide, ag s, rfl, ?_⟩
 conv => whnf
 refine ⟨by (show (kept.map ag).length + 1 <= _); simp; omega, by (show ((kept.map ag).length + 1) * 80 <= _); simp; omega, ?_⟩
 conv => whnf
 refine ⟨by decide, ag s, rfl, ?_⟩
 conv => whnf
 refine ⟨by decide, bB d, (by rw [hsd]; rfl : (s.set.data.map bB)[(0 : Int).toNat]? = some (bB d)), ?_⟩
 conv => whnf
 refine ⟨(⟨d.text, q.type⟩, kept ++ [s]), ⟨?_, by simp; omega, ?_⟩, by (show 9 - (kept ++ [s]).length < 9 - kept.length); simp; omega, ah.keep ⟨⟨rfl, rfl⟩, ⟨rfl, rfl⟩, ⟨rfl, rfl⟩, ⟨rfl, rfl⟩, trivial⟩ ⟨⟨rfl, rfl⟩, ⟨rfl, rfl⟩, ⟨rfl, rfl⟩, ⟨?_, rfl⟩, trivial⟩⟩
 . unfold aL at hq ⊢
   simp only [Bool.and_eq_true] at hq ⊢
   exact ⟨⟨hdv, hq.1.2⟩, hq.2⟩
 . rw [<- hinv]
   congr 1
   simp; omega
 . show some (Blk.row _ _ (kept.map ag ++ [ag s]) _) = _
   rw [List.map_append]; rfl
end Go.Proofs.YtnbnldnfkikakaaGreatDoor

set_option maxRecDepth 100000
namespace Go.Proofs.YtnbnldnfkikakaaGreatDoor
open NQ Go NP Go.RowKit
def oK (i : Nat) : Code -> Option (Array Oper)
 | .region id ops _ => (match Nat.beq id i with | true => some ops | false => none)
 | .seq a b => (match oK i a with | some x => some x | none => oK i b)
 | .cond _ a b => (match oK i a with | some x => some x | none => oK i b)
 | .block _ b => oK i b
 | .loop b => oK i b
 | .rangeFunc _ _ _ b => none
 | _ => none
def Gh (q : av) (l : List ao) : St := ⟨[(5, .d (.ptr (bq q))), (6, .ptr 100006 0), (9, .ptr 100009 0)], [(100006, .box [.d (.int .i64 0), .nil 5, .d (.str [])]), (100009, .box [.own 200]), (200, .row 47 2 (l.map aA))]⟩
theorem Gg (q : av) (l l' : List ao) (ops : Array Oper) (ho : oK 12 ((Tryz.f12.body).getD .skip) = some ops) (Q : St -> Prop) (h : FnR sW 41 false 47 2 (l.map aA) false [.fn 42 [] []] (l'.map aA)) (hk : ∀ st, ah sW st (Gh q l') -> Q st) :
 mF sW Tryz.f12.ntmps [55555] ops false Q (Gh q l) := by
 conv at ho => lhs; whnf
 cases ho
 conv => whnf
 exact ⟨_, h, hk _ (ah.keep ⟨⟨rfl, rfl⟩, ⟨rfl, rfl⟩, ⟨rfl, rfl⟩, trivial⟩ ⟨⟨rfl, rfl⟩, ⟨rfl, rfl⟩, ⟨rfl, rfl⟩, trivial⟩)⟩
set_option maxHeartbeats 1000000 in
theorem uu (w : bt) (a : Int) (q : av) (hF : jN w) : NQ.Fn cx 12 [.agg (bD w), .int .i64 a, .agg (bq q)] (.tuple [.agg ((cB (eQ w a q).1).map .d), .d (.int .i64 (eQ w a q).2)]) [] := by
 show NQ.Fn sW _ _ _ _
 refine wh (fun | 3 => [4] | 7 => [5, 8] | 12 => [55555] | 13 => [55555] | _ => []) Jq Hj Tryz.func12 (by kernel_rfl) rfl (Nat.le_of_ble_eq_true rfl) ?_
 conv => whnf
 (refine ⟨_, _, lA w (by have := hF.hosts; omega) (by have := hF.zones; omega) (by have := hF.hints; omega), ?_⟩; conv => whnf)
 have bad : (aX w && aL q) = false -> eQ w a q = (dF, 1) := fun h => by unfold eQ; rw [if_pos h]
 repeat' (first | (refine ⟨_, _, vt q, ?_⟩; conv => whnf) | (refine ab (fun h => ?_) (fun h => ?_) <;> (rw [h]; conv => whnf)) | fail)
 . refine ae rfl ?_
   rw [bad (by simp_all)]; rfl
 . refine ae rfl ?_
   rw [bad (by simp_all)]; rfl
 have hval : aX w = true := by simpa using ‹(!aX w) = false›
 have hq : aL q = true := by simpa using ‹(!aL q) = false›
 have hask : eQ w a q = if fM w.hosts a < 0 then (dF, 4) else match lg q (dm gD (bN w.zones (fM w.hosts a) q)) with
  | none => (⟨7, [], []⟩, 0)
  | some z => aZ z q := by unfold eQ; exact if_neg (by rw [hval, hq]; simp)
 (refine ⟨_, _, BO w.hosts (fun h => h.addr == a) (.ptr [.int .i64 a]) (by have := hF.hosts; omega) (fun h _ => Io h a), ?_⟩; conv => whnf)
 refine ab (fun h1 => ?_) (fun h1 => ?_) <;> (rw [h1]; conv => whnf)
 . have h1' : fM w.hosts a < 0 := of_decide_eq_true h1
   refine ae rfl ?_
   rw [hask, if_pos h1']; rfl
 rw [if_neg (of_decide_eq_false h1 : ¬ fM w.hosts a < 0)] at hask
 (refine ⟨_, _, wu w _ _, ?_⟩; conv => whnf)
 generalize hK : fM w.hosts a = K at *
 have hzl : (bN w.zones K q).length <= 1000 := by
  unfold bN
  rw [List.length_map]
  have := List.length_filter_le (jQ K q) w.zones
  have := hF.zones
  omega
 refine ⟨91, _, _, [(5, .d (.ptr (bq q))), (6, .ptr 100006 0), (9, .ptr 100009 0), (31, .d (.fn 91 [] [.ptr (bD w), .ptr [.fn 39 [] [.ptr [.int .i64 K], .ptr (bq q)]]]))],
  fun k => [(100006, .box [.d (.int .i64 0), .nil 5, .d (.str [])]), (100009, .box [.own 200]), (200, .row 47 2 (((bN w.zones K q).take k).map aA))], [100006, 100009],
  (ah.zero (ah.tJ 9 0 200 2 [.nil 2] 47 2 (by kernel_rfl) rfl (by kernel_rfl) (by decide))).trans ((lz.ren [6, 9] (by kernel_rfl)).trans (ah.zero (ah.keep ⟨⟨(by kernel_rfl), (by kernel_rfl)⟩, ⟨(by kernel_rfl), (by kernel_rfl)⟩, ⟨(by kernel_rfl), (by kernel_rfl)⟩, ⟨(by kernel_rfl), (by kernel_rfl)⟩, trivial⟩ ⟨⟨(by kernel_rfl), (by kernel_rfl)⟩, ⟨(by kernel_rfl), (by kernel_rfl)⟩, ⟨(by kernel_rfl), (by kernel_rfl)⟩, trivial⟩))),
  ⟨rfl, yP w 39 (.ptr [.int .i64 K]) (.ptr (bq q)) (jQ K q) (fun p _ => Gi K q p) rfl (by have := hF.zones; omega), ?_, rfl, rfl⟩, ⟨Nat.le_of_ble_eq_true rfl, ?_, rfl, by kernel_rfl⟩, ?_, ?_⟩
 . intro x hx
   exact we _ _ _ x hx
 . intro r hr
   rcases List.mem_cons.1 hr with rfl | hr
   . exact ⟨by omega, [.d (.int .i64 0), .nil 5, .d (.str [])], by kernel_rfl⟩
   . rcases List.mem_cons.1 hr with rfl | hr
     . exact ⟨by omega, [.own 200], by kernel_rfl⟩
     . cases hr
 . intro k x hx
   obtain ⟨i, p, rfl, hp⟩ := mQ _ _ _ k x hx
   have hz : (bN w.zones K q)[k]? = some p.zone := by unfold bN; rw [List.getElem?_map, hp]; rfl
   have hkl : k < (bN w.zones K q).length := (List.getElem?_eq_some_iff.1 hz).1
   conv => whnf
   refine ⟨by (show (((bN w.zones K q).take k).map aA).length + 1 <= _); simp; omega, by (show ((((bN w.zones K q).take k).map aA).length + 1) * 40 <= _); simp; omega, ?_⟩
   conv => whnf
   refine ⟨?_, fun r hr => ?_⟩
   . show ah sW _ ⟨[], [(100006, .box [.d (.int .i64 0), .nil 5, .d (.str [])]), (100009, .box [.own 200]), (200, .row 47 2 (((bN w.zones K q).take (k + 1)).map aA))]⟩
     rw [bw hz, List.map_append]
     exact ah.keep trivial ⟨⟨(by kernel_rfl), (by kernel_rfl)⟩, ⟨(by kernel_rfl), (by kernel_rfl)⟩, ⟨(by kernel_rfl), (by kernel_rfl)⟩, trivial⟩
   . rcases List.mem_cons.1 hr with rfl | hr
     . exact aw.2 ⟨_, aF ..⟩
     . rcases List.mem_cons.1 hr with rfl | hr
       . exact aw.2 ⟨_, by rw [aO _ _ (by omega), aF]⟩
       . cases hr
 . rw [mi]
   have : (bN w.zones K q).take (w.zones.filter (jQ K q)).length = bN w.zones K q := List.take_of_length_le (by unfold bN; rw [List.length_map]; exact Nat.le_refl _)
   dsimp only
   rw [this]
   have hperm := l6 (rq (bN w.zones K q))
   conv => whnf
   refine ab (fun h2 => ?_) (fun h2 => ?_) <;> (rw [h2]; conv => whnf)
   . have hnil : bN w.zones K q = [] := by
      apply List.eq_nil_of_length_eq_zero
      have h2' : (((bN w.zones K q).map aA).length : Int) = 0 := by simpa using h2
      rw [List.length_map] at h2'; omega
     refine ae rfl ?_
     rw [hask, hnil]; rfl
   . have hlen : (dm gD (bN w.zones K q)).length = (bN w.zones K q).length := hperm.length_eq
     have hpos : 0 < (bN w.zones K q).length := by
      have h2' : ¬ (((bN w.zones K q).map aA).length : Int) = 0 := by simpa using h2
      rw [List.length_map] at h2'; omega
     have hmem : ∀ z ∈ dm gD (bN w.zones K q), cN z = true := fun z hz => by
      have hz := hperm.subset hz
      unfold bN at hz
      obtain ⟨p, hp, rfl⟩ := List.mem_map.1 hz
      exact hF.few p (List.mem_filter.1 hp).1
     have hS := fun fl => CM (bN w.zones K q) (by omega) fl
     refine ⟨Gh q (bN w.zones K q), ah.keep ⟨⟨(by kernel_rfl), (by kernel_rfl)⟩, ⟨(by kernel_rfl), (by kernel_rfl)⟩, ⟨(by kernel_rfl), (by kernel_rfl)⟩, trivial⟩ ⟨⟨(by kernel_rfl), (by kernel_rfl)⟩, ⟨(by kernel_rfl), (by kernel_rfl)⟩, ⟨(by kernel_rfl), (by kernel_rfl)⟩, trivial⟩, ?_⟩
     generalize dm gD (bN w.zones K q) = L at *
     refine Gg q _ L _ (by kernel_rfl) _ (hS _) fun st hst => ?_
     conv => whnf
     refine ⟨_, hst, ?_⟩
     cases L with
     | nil => simp at hlen; omega
     | cons z t =>
      have hz := hmem z (List.mem_cons_self ..)
      conv => whnf
      refine ⟨by decide, by (show 0 < ((z :: t).map aA).length); simp, ?_⟩
      conv => whnf
      have one : ((q.type == 6) && (z.apex == q.name)) = false -> eQ w a q = aZ z q := fun hb => by rw [hask]; unfold lg; dsimp only; rw [hb]; rfl
      refine ⟨aA z, rfl, ?_⟩
      conv => whnf
      refine ab (fun h6 => ?_) (fun h6 => ?_) <;> (rw [h6]; conv => whnf)
      case refine_2 =>
       (refine ⟨_, _, kC z q (by have := (bP hz).1; omega), ?_⟩; conv => whnf)
       refine ae rfl ?_
       rw [one (by rw [h6]; rfl)]; rfl
      refine ab (fun ha => ?_) (fun ha => ?_) <;> (rw [ha]; conv => whnf)
      case refine_2 =>
       (refine ⟨_, _, kC z q (by have := (bP hz).1; omega), ?_⟩; conv => whnf)
       refine ae rfl ?_
       rw [one (by rw [ha]; simp)]; rfl
      refine ab (fun hl => ?_) (fun hl => ?_) <;> (rw [hl]; conv => whnf)
      case refine_2 =>
       have ht : t = [] := by
        cases t with
        | nil => rfl
        | cons y t => exfalso; have := of_decide_eq_false hl; simp at this; omega
       subst ht
       (refine ⟨_, _, kC z q (by have := (bP hz).1; omega), ?_⟩; conv => whnf)
       refine ae rfl ?_
       have e : eQ w a q = aZ z q := by
        rw [hask]; unfold lg; dsimp only
        have h6' : (q.type == 6) = true := h6
        have ha' : (z.apex == q.name) = true := ha
        rw [h6', ha']; rfl
       rw [e]; rfl
      cases t with
      | nil => exfalso; have := of_decide_eq_true hl; simp at this
      | cons y t =>
       have hy := hmem y (List.mem_cons_of_mem _ (List.mem_cons_self ..))
       refine ⟨by decide, by (show 1 < ((z :: y :: t).map aA).length; simp), ?_⟩
       conv => whnf
       refine ⟨aA y, rfl, ?_⟩
       conv => whnf
       (refine ⟨_, _, kC y q (by have := (bP hy).1; omega), ?_⟩; conv => whnf)
       refine ae rfl ?_
       have e : eQ w a q = aZ y q := by
        rw [hask]; unfold lg; dsimp only
        have h6' : (q.type == 6) = true := h6
        have ha' : (z.apex == q.name) = true := ha
        rw [h6', ha']; rfl
       rw [e]; rfl
end Go.Proofs.YtnbnldnfkikakaaGreatDoor

set_option maxRecDepth 100000
namespace NP
open NQ Go
def jL (n : Bs) (t : Int) (d : Datum) : Signed := ⟨⟨n, t, 9, [d]⟩, []⟩
def Bl : ao := ⟨[46], [jL [46] 2 ⟨[97, 46, 110, 115], 0, 0⟩, jL [46] 4 ⟨[], 1, 0⟩, jL [120] 2 ⟨[98, 46, 110, 115], 0, 0⟩]⟩
def xX : ao := ⟨[120], [jL [120] 2 ⟨[98, 46, 110, 115], 0, 0⟩, jL [120] 4 ⟨[], 1, 0⟩, jL [108, 46, 120] 3 ⟨[116, 46, 120], 0, 0⟩, jL [116, 46, 120] 5 ⟨[116], 0, 0⟩]⟩
def exW : bt := ⟨[⟨[97, 46, 110, 115], 1, 0⟩, ⟨[98, 46, 110, 115], 2, 1⟩], [⟨0, Bl⟩, ⟨1, xX⟩], ⟨[46], 6, 0, [⟨[], 1, 1⟩]⟩, [1]⟩
def FK : bt := ⟨exW.hosts, [⟨0, Bl⟩], exW.anchor, exW.hints⟩
def I0 : bt := ⟨[⟨[97, 46, 110, 115], 1, 0⟩, ⟨[98, 46, 110, 115], 1, 1⟩], [⟨0, Bl⟩], exW.anchor, exW.hints⟩
def qLX : av := ⟨[108, 46, 120], 5⟩
def qTX : av := ⟨[116, 46, 120], 5⟩
def qY : av := ⟨[121], 5⟩
theorem gZ : jN exW := ⟨by decide, by decide, by decide, fun p hp => by
 rcases List.mem_cons.1 hp with rfl | hp
 . kernel_rfl
 . rcases List.mem_cons.1 hp with rfl | hp
   . kernel_rfl
   . cases hp⟩
theorem FJ : jN FK := ⟨by decide, by decide, by decide, fun p hp => by
 rcases List.mem_cons.1 hp with rfl | hp
 . kernel_rfl
 . cases hp⟩
theorem uv {w : bt} {q : av} {a : Int} (hval : aX w = true) (hq : aL q = true) (hF : jN w) : eQ w a q = if fM w.hosts a < 0 then (dF, 4) else (iu w.zones (fM w.hosts a) q, 0) := by
 unfold eQ
 rw [if_neg (by rw [hval, hq]; simp)]
 split
 . rfl
 . rename_i h
   exact wB hval hF hq (by omega)
theorem jX : aX exW = true := by kernel_rfl
theorem FG : dx exW qLX = (⟨1, [jL [108, 46, 120] 3 ⟨[116, 46, 120], 0, 0⟩, jL [116, 46, 120] 5 ⟨[116], 0, 0⟩], []⟩, 0) := by kernel_rfl
theorem H8 : dx FK qLX = (dF, 34) := by kernel_rfl
theorem Ib : eQ exW 1 qTX = (⟨4, [jL [120] 2 ⟨[98, 46, 110, 115], 0, 0⟩], [120]⟩, 0) := by
 rw [uv jX (by kernel_rfl) gZ]; kernel_rfl
theorem Ia : eQ exW 2 qY = (⟨7, [], []⟩, 0) := by
 rw [uv jX (by kernel_rfl) gZ]; kernel_rfl
theorem H9 : eQ exW 3 qY = (dF, 4) := by
 rw [uv jX (by kernel_rfl) gZ]; kernel_rfl
theorem FI : dP true exW [116, 46, 120] = ([120], 0) := by kernel_rfl
theorem FH : dP true exW [121] = ([46], 0) := by kernel_rfl
theorem B7 : aX I0 = false := by kernel_rfl
end NP
namespace Go.Proofs.YtnbnldnfkikakaaGreatDoor
open NQ Go NP Go.RowKit
noncomputable def cxE : Cx := { cx with bld := [14, 28, 38, 40, 42, 100032] }
theorem tyE : aT cxE := ay
theorem IW : cxE.P.follows .mixedOrders = true := mixed
noncomputable def FT : Cx := { cx with bld := [10] }
theorem Jr : aT FT := ay
theorem Hk : FT.P.follows .mixedOrders = true := mixed
theorem jH (n : Bs) (t : Int) (d : Datum) : NQ.Fn cx 90 [.str n, .int .i64 t, .agg (bB d)] (.agg ((ag (jL n t d)).map .d)) [] := by
 show NQ.Fn FT _ _ _ _
 refine cH (fun _ => []) Jr Hk Tryz.func90 (by kernel_rfl) rfl (Nat.le_of_ble_eq_true rfl) ?_
 conv => whnf
 exact ae rfl rfl
def JB : AV := .agg (.own 32 :: ((bD exW).drop 1).map .d)
def JA : List (Nat × Blk) := [(32, .row 51 3 (exW.hosts.map dq) true)]
theorem yE : NQ.Fn cx 33 [] JB JA := by
 show NQ.Fn cxE _ _ _ _
 refine cH (fun _ => []) tyE IW Tryz.func33 (by kernel_rfl) rfl (Nat.le_of_ble_eq_true rfl) ?_
 conv => whnf
 (refine ⟨_, _, jH [46] 2 ⟨[97, 46, 110, 115], 0, 0⟩, ?_⟩; conv => whnf)
 (refine ⟨_, _, jH [46] 4 ⟨[], 1, 0⟩, ?_⟩; conv => whnf)
 (refine ⟨_, _, jH [120] 2 ⟨[98, 46, 110, 115], 0, 0⟩, ?_⟩; conv => whnf)
 (refine ⟨_, _, jH [120] 2 ⟨[98, 46, 110, 115], 0, 0⟩, ?_⟩; conv => whnf)
 (refine ⟨_, _, jH [120] 4 ⟨[], 1, 0⟩, ?_⟩; conv => whnf)
 (refine ⟨_, _, jH [108, 46, 120] 3 ⟨[116, 46, 120], 0, 0⟩, ?_⟩; conv => whnf)
 (refine ⟨_, _, jH [116, 46, 120] 5 ⟨[116], 0, 0⟩, ?_⟩; conv => whnf)
 exact xI (by kernel_rfl) (by kernel_rfl) ⟨⟨by kernel_rfl, by kernel_rfl⟩, trivial⟩
end Go.Proofs.YtnbnldnfkikakaaGreatDoor

set_option maxRecDepth 100000
namespace Go.Proofs.YtnbnldnfkikakaaGreatDoor
open NQ Go NP Go.RowKit
theorem sO (w : bt) (s : Bs) (hF : jN w) : NQ.Fn cx 16 [.agg (bD w), .str s] (.tuple [.d (.str (dP (aX w) w s).1), .d (.int .i64 (dP (aX w) w s).2)]) [] :=
 Hz w s (aX w) (lA w (by have := hF.hosts; omega) (by have := hF.zones; omega) (by have := hF.hints; omega)) (by have := hF.zones; omega)
theorem vx (w : bt) (hF : jN w) : NQ.Fn cx 19 [.agg (bD w)] (.d (.bool (aX w))) [] := lA w (by have := hF.hosts; omega) (by have := hF.zones; omega) (by have := hF.hints; omega)
theorem A2 (w : bt) (hF : jN w) : NQ.Fn cx 20 [.agg (bD w)] (.d (.bool (aX w))) [] := mZ w (by have := hF.hosts; omega) (by have := hF.zones; omega) (by have := hF.hints; omega) (fun p hp => by have := (bP (hF.few p hp)).1; omega)
set_option maxHeartbeats 2000000 in
theorem Dy : NQ.Fn cx 10 [] (.d (.bool true)) [] := by
 have fT := so exW qLX gZ; rw [FG] at fT
 have fA := uu exW 1 qTX gZ; rw [Ib] at fA
 have fB := uu exW 2 qY gZ; rw [Ia] at fB
 have fC := uu exW 3 qY gZ; rw [H9] at fC
 have fH := sO exW [116, 46, 120] gZ; rw [jX, FI] at fH
 have fI := sO exW [121] gZ; rw [jX, FH] at fI
 have fV := vx exW gZ; rw [jX] at fV
 have fD := so FK qLX FJ; rw [H8] at fD
 have fW := lA I0 (by decide) (by decide) (by decide); rw [B7] at fW
 have fS := tF ⟨1, [jL [108, 46, 120] 3 ⟨[116, 46, 120], 0, 0⟩, jL [116, 46, 120] 5 ⟨[116], 0, 0⟩], []⟩ ⟨1, [jL [108, 46, 120] 3 ⟨[116, 46, 120], 0, 0⟩, jL [116, 46, 120] 5 ⟨[116], 0, 0⟩], []⟩ (by decide) (by decide)
 rw [decide_eq_true rfl] at fS
 refine cH (fun _ => []) ay mixed Tryz.func10 (by kernel_rfl) rfl (Nat.le_of_ble_eq_true rfl) ?_
 conv => whnf
 (refine ⟨_, _, yE, ?_⟩; conv => whnf)
 refine ⟨_, fT, by kernel_rfl, ?_⟩
 conv => whnf
 refine ⟨_, fA, by kernel_rfl, ?_⟩
 conv => whnf
 refine ⟨_, fB, by kernel_rfl, ?_⟩
 conv => whnf
 refine ⟨_, fH, by kernel_rfl, ?_⟩
 conv => whnf
 refine ⟨_, fI, by kernel_rfl, ?_⟩
 conv => whnf
 refine ⟨_, fC, by kernel_rfl, ?_⟩
 conv => whnf
 refine ⟨_, fV, by kernel_rfl, ?_⟩
 conv => whnf
 repeat' (first
  | (refine ⟨(by kernel_rfl : aJ _ _ = true), ?_⟩; conv => whnf)
  | (refine ⟨_, _, fS, ?_⟩; conv => whnf)
  | (refine ⟨_, fD, by kernel_rfl, ?_⟩; conv => whnf)
  | (refine ⟨_, fW, by kernel_rfl, ?_⟩; conv => whnf)
  | (refine ⟨by decide, by decide, by decide, ?_⟩; conv => whnf)
  | (refine ⟨by decide, by decide, ?_⟩; conv => whnf)
  | (refine ⟨by decide, aI _, rfl, ?_⟩; conv => whnf)
  | (refine ⟨dq _, rfl, ?_⟩; conv => whnf)
  | exact ae rfl rfl
  | fail)
end Go.Proofs.YtnbnldnfkikakaaGreatDoor

set_option maxRecDepth 100000
namespace NP
open NQ Go
theorem rG {zs : List ai} (hg : mu zs) : ∀ (f : Nat) (q : av) (kept : List Signed), aL q = true -> (∀ s ∈ kept, ∃ p ∈ zs, s ∈ p.zone.sets) ->
 (∀ s ∈ (eV zs f q kept).1.sets, ∃ p ∈ zs, s ∈ p.zone.sets) /\ (eV zs f q kept).1.sets.length <= kept.length + f + 1000
 | 0, q, kept, _, _ => ⟨fun s hs => (by cases hs), by simp [eV, dF]⟩
 | f + 1, q, kept, hq, hk => by
  unfold eV
  cases hok : (bR zs q).2 with
  | false => exact ⟨fun s hs => (by cases hs), by simp [dF]⟩
  | true =>
   rw [if_neg (by simp)]
   obtain ⟨p, hpm, u, hpa, hp4⟩ := mD hg hq (x := (bR zs q).1) (by rw [<- hok])
   split
   . refine ⟨fun s hs => ?_, ?_⟩
     . rcases List.mem_append.1 hs with hs | hs
       . exact hk s hs
       . rw [hpa] at hs; exact ⟨p, hpm, AX u.few q s hs⟩
     . have := rA u.few q
       show (kept ++ (bR zs q).1.sets).length <= _
       rw [List.length_append, hpa]; omega
   . rename_i h2
     have hk3 : (aZ p.zone q).1.kind = 3 := by rw [<- hpa]; simpa using h2
     obtain ⟨s, R, d, hs, hsm, hst, hsd, hdv⟩ := u.y9 hk3
     rw [<- hpa] at hs
     rw [hs]
     simp only [List.head?_cons, hsd]
     have := rG hg f ⟨d.text, q.type⟩ (kept ++ [s]) (by
      unfold aL at hq ⊢
      simp only [Bool.and_eq_true] at hq ⊢
      exact ⟨⟨hdv, hq.1.2⟩, hq.2⟩) fun x hx => by
       rcases List.mem_append.1 hx with hx | hx
       . exact hk x hx
       . rw [List.mem_singleton] at hx; subst hx; exact ⟨p, hpm, hsm⟩
     refine ⟨this.1, ?_⟩
     have h := this.2
     rw [List.length_append, List.length_singleton] at h
     omega
structure qL (a : Ans) : Prop where
 len : a.sets.length <= 100000
 small : ∀ s ∈ a.sets, s.set.data.length <= 100000 /\ s.sigs.length <= 100000
theorem zt {w : bt} (hF : jN w) (q : av) : qL (dx w q).1 := by
 unfold dx
 split
 . exact ⟨by decide, fun s hs => by cases hs⟩
 . rename_i h
   have hv : aX w = true /\ aL q = true := by simpa using h
   have hg : mu w.zones := fun p hp => ⟨hF.few p hp, (fP hv.1 p hp).1⟩
   obtain ⟨h1, h2⟩ := rG hg 9 q [] hv.2 (fun s hs => by cases hs)
   refine ⟨by rw [List.length_nil] at h2; omega, fun s hs => ?_⟩
   obtain ⟨p, hp, hm⟩ := h1 s hs
   have := (bP (hF.few p hp)).2 s hm
   omega
theorem zA {zs : List ai} (hf : ∀ p ∈ zs, cN p.zone = true) {K : Int} (hK : 0 <= K) (q : av) : qL (iu zs K q) := by
 unfold iu
 cases h : fQ zs K q with
 | none => exact ⟨Nat.zero_le _, fun s hs => by cases hs⟩
 | some x =>
  have hx := hf _ (km hK h).2.1
  show qL (aZ x.2.zone q).1
  exact ⟨by have := rA hx q; omega, D5 hx q⟩
theorem DY {w : bt} (hF : jN w) (a : Int) (q : av) : qL (eQ w a q).1 := by
 by_cases h : aX w = true /\ aL q = true
 . rw [uv h.1 h.2 hF]
   split
   . exact ⟨by decide, fun s hs => by cases hs⟩
   . exact zA hF.few (by omega) q
 . unfold eQ
   rw [if_pos (by simpa [Bool.and_eq_true] using h)]
   exact ⟨by decide, fun s hs => by cases hs⟩
end NP
namespace Go.Proofs.YtnbnldnfkikakaaGreatDoor
open NQ Go NP Go.RowKit
theorem rK (a : Ans) (h : qL a) : NQ.Fn cx 18 [.agg (cB a), .agg (cB a)] (.d (.bool true)) [] := by
 have := tF a a h.len h.small
 rw [decide_eq_true rfl] at this
 exact this
set_option maxHeartbeats 1000000 in
theorem tg (w : bt) (a : Int) (ha : (Lit.int .i64 a).wf = true) (q : av) (s : Bs) : NQ.Fn cx 3 [.agg (bD w), .int .i64 a, .agg (bq q), .str s] (.d (.bool true)) [] := by
 refine aq ay mixed Tryz.func3 (by kernel_rfl) rfl (Nat.le_of_ble_eq_true rfl) ?_; conv => whnf
 (refine ⟨_, _, Dy, ?_⟩; conv => whnf)
 (refine ⟨_, _, H6 w, ?_⟩; conv => whnf)
 cases hf : lX w with
 | false =>
  conv => whnf
  exact ae rfl rfl
 | true =>
  have hF := (FF hf).1
  conv => whnf
  (refine ab (fun h => ?_) (fun h => ?_) <;> (rw [h]; conv => whnf))
  . exact ae rfl rfl
  (refine ⟨_, _, uu w a q hF, ?_⟩; conv => whnf)
  (refine ⟨_, _, Il w a q hF, ?_⟩; conv => whnf)
  (refine ⟨_, _, so w q hF, ?_⟩; conv => whnf)
  (refine ⟨_, _, CE w q hF, ?_⟩; conv => whnf)
  (refine ⟨_, _, sO w s hF, ?_⟩; conv => whnf)
  (refine ⟨_, _, Fp w s hF, ?_⟩; conv => whnf)
  (refine ⟨(by kernel_rfl : aJ _ _ = true), ?_⟩; conv => whnf)
  have t1 := rK _ (DY hF a q)
  have t2 := rK _ (zt hF q)
  generalize eQ w a q = A at *
  generalize dx w q = T at *
  generalize dP (aX w) w s = H at *
  (refine ⟨_, _, t1, ?_⟩; conv => whnf)
  rw [show (A.2 == A.2) = true from beq_self_eq_true _]
  conv => whnf
  (refine ⟨_, _, t2, ?_⟩; conv => whnf)
  rw [show (T.2 == T.2) = true from beq_self_eq_true _]
  conv => whnf
  rw [show (H.1 == H.1) = true from beq_self_eq_true _]
  conv => whnf
  rw [show (H.2 == H.2) = true from beq_self_eq_true _]
  conv => whnf
  (refine ⟨_, _, vx w hF, ?_⟩; conv => whnf)
  (refine ⟨_, _, A2 w hF, ?_⟩; conv => whnf)
  refine ae rfl ?_
  cases aX w <;> rfl
end Go.Proofs.YtnbnldnfkikakaaGreatDoor
