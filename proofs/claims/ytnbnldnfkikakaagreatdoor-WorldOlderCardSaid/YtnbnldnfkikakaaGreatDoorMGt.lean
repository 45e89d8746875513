/-
  Texts of the proof, merged in build order.
-/
import Derived.Test.YtnbnldnfkikakaaGreatDoorMGja
import Derived.Test.YtnbnldnfkikakaaGreatDoorMQr
import Derived.Test.YtnbnldnfkikakaaGreatDoorMQt
set_option linter.all false
set_option maxRecDepth 100000
namespace NP
open NQ Go
theorem truthR_go {w : bg} {q : ay} (hv : bt w = true) (hq : bc q = true) : ir w q = iL w.zones 9 q [] := by unfold ir; rw [if_neg (by rw [hv, hq]; simp)]
end NP
namespace Go.Proofs.YtnbnldnfkikakaaGreatDoor
open NQ Go NP Go.RowKit
end Go.Proofs.YtnbnldnfkikakaaGreatDoor

set_option maxRecDepth 100000
namespace NP
open NQ Go
theorem copiesGo_iff {n : Nat} : ∀ (l seen : List af), cP n seen l = true ↔ ((∀ p ∈ l, ((decide (p.host < 0) || decide (p.host >= (n : Int)) || !aO p.zone) = false) /\ seen.any (cr p) = false) /\ l.Pairwise (fun x p => cr p x = false))
 | [], seen => by simp [cP]
 | x :: t, seen => by
  rw [cP, Bool.and_eq_true, copiesGo_iff t, List.pairwise_cons]
  simp only [List.any_append, List.any_cons, List.any_nil, Bool.or_false, Bool.not_eq_true', List.mem_cons, forall_eq_or_imp]
  constructor
  . rintro ⟨h1, h2, h3⟩
    simp only [Bool.or_eq_false_iff] at h1 h2 ⊢
    exact ⟨⟨⟨⟨h1.1.1, h1.2⟩, h1.1.2⟩, fun p hp => ⟨(h2 p hp).1, (h2 p hp).2.1⟩⟩, fun p hp => (h2 p hp).2.2, h3⟩
  . rintro ⟨⟨h1, h2⟩, h3, h4⟩
    simp only [Bool.or_eq_false_iff] at h1 h2 ⊢
    exact ⟨⟨⟨h1.1.1, h1.2⟩, h1.1.2⟩, fun p hp => ⟨(h2 p hp).1, (h2 p hp).2, h3 p hp⟩, h4⟩
theorem nodup_len {α : Type} [BEq α] [LawfulBEq α] : ∀ {a b : List α}, a.Nodup -> (∀ x ∈ a, x ∈ b) -> a.length <= b.length
 | [], b, _, _ => Nat.zero_le _
 | x :: t, b, hn, hs => by
  have hx := hs x (List.mem_cons_self ..)
  rw [List.nodup_cons] at hn
  have := nodup_len (b := b.erase x) hn.2 fun y hy => (List.mem_erase_of_ne (fun (e : y = x) => hn.1 (e ▸ hy))).2 (hs y (List.mem_cons_of_mem _ hy))
  rw [List.length_erase_of_mem hx] at this
  have h0 : 0 < b.length := List.length_pos_of_mem hx
  rw [List.length_cons]; omega
theorem apexes_spec (l : List af) : (eI l).Nodup /\ ∀ a, a ∈ eI l ↔ ∃ p ∈ l, p.zone.apex = a := by
 have key : ∀ (l : List af) (out : List Bs), out.Nodup -> (l.foldl (fun out p => if out.contains p.zone.apex = true then out else out ++ [p.zone.apex]) out).Nodup /\ ∀ a, a ∈ l.foldl (fun out p => if out.contains p.zone.apex = true then out else out ++ [p.zone.apex]) out ↔ (a ∈ out \/ ∃ p ∈ l, p.zone.apex = a) := fun l => by
  induction l with
  | nil => intro out h; exact ⟨h, fun a => by simp⟩
  | cons p t ih =>
   intro out h
   simp only [List.foldl_cons]
   by_cases hc : out.contains p.zone.apex = true
   . rw [if_pos hc]
     obtain ⟨h1, h2⟩ := ih out h
     refine ⟨h1, fun a => ?_⟩
     rw [h2]
     have hm : p.zone.apex ∈ out := List.contains_iff_mem.1 hc
     constructor
     . rintro (h | ⟨q, hq, e⟩)
       . exact .inl h
       . exact .inr ⟨q, List.mem_cons_of_mem _ hq, e⟩
     . rintro (h | ⟨q, hq, e⟩)
       . exact .inl h
       . rcases List.mem_cons.1 hq with rfl | hq
         . exact .inl (e ▸ hm)
         . exact .inr ⟨q, hq, e⟩
   . rw [if_neg hc]
     have hm : p.zone.apex ∉ out := fun e => hc (List.contains_iff_mem.2 e)
     obtain ⟨h1, h2⟩ := ih (out ++ [p.zone.apex]) (by
      rw [List.nodup_append]
      exact ⟨h, by simp, fun a ha b hb => by rw [List.mem_singleton] at hb; subst hb; exact fun e => hm (e ▸ ha)⟩)
     refine ⟨h1, fun a => ?_⟩
     rw [h2]
     constructor
     . rintro (h | ⟨q, hq, e⟩)
       . rcases List.mem_append.1 h with h | h
         . exact .inl h
         . rw [List.mem_singleton] at h; exact .inr ⟨p, List.mem_cons_self .., h.symm⟩
       . exact .inr ⟨q, List.mem_cons_of_mem _ hq, e⟩
     . rintro (h | ⟨q, hq, e⟩)
       . exact .inl (List.mem_append.2 (.inl h))
       . rcases List.mem_cons.1 hq with rfl | hq
         . exact .inl (List.mem_append.2 (.inr (by rw [List.mem_singleton]; exact e.symm)))
         . exact .inr ⟨q, hq, e⟩
 obtain ⟨h1, h2⟩ := key l [] List.nodup_nil
 exact ⟨h1, fun a => (h2 a).trans (by simp)⟩
theorem apexes_sub {l l' : List af} (h : ∀ p ∈ l', p ∈ l) : (eI l').length <= (eI l).length := by
 refine nodup_len (apexes_spec l').1 fun a ha => ?_
 obtain ⟨p, hp, e⟩ := ((apexes_spec l').2 a).1 ha
 exact ((apexes_spec l).2 a).2 ⟨p, h p hp, e⟩
theorem l7.sub {w : bg} (h : l7 w) {l : List af} (hs : l.Sublist w.zones) : l7 (I5 w l) :=
 ⟨h.hosts, Nat.le_trans hs.length_le h.zones, h.hints, fun p hp => h.few p (hs.subset hp)⟩
end NP
namespace Go.Proofs.YtnbnldnfkikakaaGreatDoor
open NQ Go NP Go.RowKit
end Go.Proofs.YtnbnldnfkikakaaGreatDoor

set_option maxRecDepth 100000
namespace NP
open NQ Go
end NP
namespace Go.Proofs.YtnbnldnfkikakaaGreatDoor
open NQ Go NP Go.RowKit
theorem rem16_val {t : TypeId} (a b : Int) (hb : b ≠ 0) : D8 cx .rem t (.d (.int .i64 a)) (.d (.int .i64 b)) = some (.d (.int .i64 (a.tmod b))) := by
 show (match kW .rem .i64 a b with | some r => some (AV.d r) | none => none) = _
 unfold kW
 rw [decide_eq_false hb]
theorem u8_16 {n : Int} (h : (Lit.int .u8 n).wf = true) : 0 <= n /\ n <= 255 := by
 simp [Lit.wf, IntKind.min, IntKind.max, IntKind.signed, IntKind.bits] at h
 omega
theorem ai.frz16 {cx : Cx} {st : St} (l : List Nat) : ai cx st (st.aN l) := fun _ _ _ h => h.aN l
end Go.Proofs.YtnbnldnfkikakaaGreatDoor

set_option maxRecDepth 100000
namespace NP
open NQ Go
def newStart (s : Signed) (n : Int) : Signed := ⟨⟨s.set.name, s.set.type, s.set.life, [⟨[], n, 7⟩]⟩, s.sigs⟩
theorem newStart_set {s : Signed} (h : cv s.set = true) (ht : s.set.type = 4) {n : Int} (h0 : 0 <= n) (h1 : n <= 65535) : cv (newStart s n).set = true := by
 obtain ⟨⟨nm, ty, li, da⟩, sg⟩ := s
 dsimp only at ht
 subst ht
 have hr : dB 4 = ⟨0, 0, 65535, 0, 100000, false, true, false⟩ := rfl
 unfold cv at h ⊢
 unfold newStart
 simp only [hr, Bool.and_eq_true, Bool.not_eq_true', Bool.or_eq_false_iff, Bool.not_eq_false'] at h ⊢
 obtain ⟨⟨⟨⟨⟨a1, a2⟩, a3⟩, _⟩, _, a5⟩, _⟩ := h
 refine ⟨⟨⟨⟨⟨a1, a2⟩, a3⟩, rfl⟩, rfl, a5⟩, ?_⟩
 rw [List.all_eq_true]
 intro i hi
 have : i = 0 := by simp at hi; omega
 subst this
 rw [xj (d := ⟨[], n, 7⟩) (p := ⟨[], n, 7⟩) rfl rfl]
 unfold mc dV within jG
 simp
 omega
theorem start_put {z : aq} (hv : aO z = true) {s : Signed} (hs : s ∈ z.sets) (hp : s.place = (z.apex, 4)) {n : Int} (h0 : 0 <= n) (h1 : n <= 65535) :
 kz z (newStart s n) = (bp z (newStart s n), 0) /\ aO (bp z (newStart s n)) = true /\ gp (bp z (newStart s n)) = n := by
 have V := rb.1 hv
 have ho := V.ord
 have en : s.set.name = z.apex := congrArg Prod.fst hp
 have et : s.set.type = 4 := congrArg Prod.snd hp
 have hpl : (newStart s n).place = s.place := rfl
 have hq : qOf (newStart s n) = ⟨z.apex, 4⟩ := by unfold qOf newStart; rw [en, et]
 have ok : Ax z (newStart s n) := ⟨newStart_set (ho.set s hs) et h0 h1, V.form s hs, ho.under s hs, V.fit s hs, .inl (by rw [hq]; exact V.start)⟩
 have hy := zq ho ok
 have hm := He ho (newStart s n)
 have hcut : ∀ c, c ∈ bq (bp z (newStart s n)).apex (bp z (newStart s n)).sets ↔ c ∈ bq z.apex z.sets := IG rfl fun y hy2 => Jq ho (by show s.set.type ≠ 2; rw [et]; decide) y hy2
 have hsp : ∀ m, spec (aT (bp z (newStart s n))) m = spec (aT z) m := fun m => I3 hy ho hcut m
 have h2 : aliases (bp z (newStart s n)) = true /\ fp (bp z (newStart s n)) (aR (bp z (newStart s n))) = true /\ gq (bp z (newStart s n)) (aR (bp z (newStart s n))) = true := by
  refine ⟨(pt hy).2 fun x hx y hy' h3 hn => ?_, (pJ hy).2 fun x hx => ?_, (qs hy).2 fun x hx => ?_⟩
  . have hx' : x ∈ z.sets := by
     rcases (hm x).1 hx with rfl | hx
     . exfalso; rw [show (newStart s n).set.type = s.set.type from rfl, et] at h3; cases h3
     . exact hx.1
    rcases (hm y).1 hy' with rfl | hy'
    . exact V.ali x hx' s hs h3 hn
    . exact V.ali x hx' y hy'.1 h3 hn
  . rw [hsp]
    rcases (hm x).1 hx with rfl | hx
    . exact V.cut s hs
    . exact V.cut x hx.1
  . rw [hsp]
    rcases (hm x).1 hx with rfl | hx
    . exact V.sig s hs
    . exact V.sig x hx.1
 have hval := Jr hv ok h2
 refine ⟨?_, hval, ?_⟩
 . rw [Jp hv ok]
   unfold F8
   rw [if_neg (by rw [h2.1]; simp), if_neg (by rw [h2.2.1]; simp), if_neg (by rw [h2.2.2]; simp)]
 . have hh : bo (bp z (newStart s n)).sets ⟨z.apex, 4⟩ = true := Al ho V.start
   obtain ⟨y, hy1, hy2, hy3⟩ := oI hy (q := ⟨z.apex, 4⟩) ho.apex hh
   have : y = newStart s n := by
    rcases (hm y).1 hy2 with e | e
    . exact e
    . exfalso; exact e.2 (by rw [hy3, hpl, hp]; rfl)
   subst this
   unfold gp
   rw [show (bp z (newStart s n)).apex = z.apex from rfl, hy1]
   rfl
theorem few_of {z : aq} (h1 : z.sets.length <= 100) (h2 : ∀ s ∈ z.sets, s.set.data.length <= 20 /\ s.sigs.length <= 20) : ep z = true := by
 unfold ep
 rw [Bool.and_eq_true]
 refine ⟨decide_eq_true (by omega), ?_⟩
 rw [jf (q := fun s => !(decide ((s.set.data.length : Int) > 20) || decide ((s.sigs.length : Int) > 20))) fun i s h => by unfold mW; rw [h]]
 intro s hs
 have := h2 s hs
 simp; omega
theorem start_few {z : aq} (hv : aO z = true) (hf : ep z = true) {s : Signed} (hs : s ∈ z.sets) (n : Int) : ep (bp z (newStart s n)) = true := by
 have ho := aW hv
 obtain ⟨f1, f2⟩ := dN hf
 refine few_of ?_ fun x hx => ?_
 . have hh : bo z.sets (qOf (newStart s n)) = true := dZ.2 ⟨s, hs, rfl⟩
   show (jm z.sets (newStart s n)).length <= 100
   unfold jm
   rw [if_pos hh, List.length_set]; exact f1
 . rcases (He ho (newStart s n) x).1 hx with rfl | hx
   . exact ⟨by show 1 <= 20; decide, (f2 s hs).2⟩
   . exact f2 x hx.1
theorem best_top2 {ok : af -> Bool} {better : af -> af -> Bool} (hirr : ∀ p, better p p = false) (htr : ∀ p q r, better p q = true -> better q r = true -> better p r = true) : ∀ (l : List af) (i : Nat) (b : Option (Nat × af)) (x : Nat × af), eS ok better i l b = some x ->
 (b = some x \/ (x.2 ∈ l /\ ok x.2 = true)) /\ (∀ e, (∀ y, b = some y -> better e y.2 = false) -> b ≠ none -> better e x.2 = false) /\ ∀ p ∈ l, ok p = true -> better p x.2 = false
 | [], i, b, x, h => by cases h; exact ⟨.inl rfl, fun e he _ => he x rfl, fun p hp => by cases hp⟩
 | p :: t, i, b, x, h => by
  have h' : eS ok better (i + 1) t (cj ok better i p b) = some x := h
  obtain ⟨h1, h2, h3⟩ := best_top2 hirr htr t (i + 1) _ x h'
  by_cases hp : ok p = true
  . cases b with
    | none =>
     have e0 : cj ok better i p none = some (i, p) := by unfold cj; rw [if_pos hp]
     rw [e0] at h1 h2
     refine ⟨.inr ?_, fun e he hb => absurd rfl hb, fun q hq hoq => ?_⟩
     . rcases h1 with h1 | h1
       . cases h1; exact ⟨List.mem_cons_self .., hp⟩
       . exact ⟨List.mem_cons_of_mem _ h1.1, h1.2⟩
     . rcases List.mem_cons.1 hq with rfl | hq
       . exact h2 q (fun y hy => by cases hy; exact hirr q) (by simp)
       . exact h3 q hq hoq
    | some y =>
     by_cases hbt : better p y.2 = true
     . have e0 : cj ok better i p (some y) = some (i, p) := by unfold cj; rw [if_pos hp]; dsimp only; rw [if_pos hbt]
       rw [e0] at h1 h2
       refine ⟨.inr ?_, fun e he _ => ?_, fun q hq hoq => ?_⟩
       . rcases h1 with h1 | h1
         . cases h1; exact ⟨List.mem_cons_self .., hp⟩
         . exact ⟨List.mem_cons_of_mem _ h1.1, h1.2⟩
       . refine h2 e (fun z hz => ?_) (by simp)
         cases hz
         cases hc : better e p with
         | false => rfl
         | true =>
          have := htr e p y.2 hc hbt
          rw [he y rfl] at this; cases this
       . rcases List.mem_cons.1 hq with rfl | hq
         . exact h2 q (fun z hz => by cases hz; exact hirr q) (by simp)
         . exact h3 q hq hoq
     . have e0 : cj ok better i p (some y) = some y := by unfold cj; rw [if_pos hp]; dsimp only; rw [if_neg hbt]
       rw [e0] at h1 h2
       refine ⟨h1.imp id fun h1 => ⟨List.mem_cons_of_mem _ h1.1, h1.2⟩, fun e he hb => h2 e he hb, fun q hq hoq => ?_⟩
       rcases List.mem_cons.1 hq with rfl | hq
       . exact h2 q (fun z hz => by cases hz; simpa using hbt) (by simp)
       . exact h3 q hq hoq
  . have e0 : cj ok better i p b = b := by unfold cj; rw [if_neg hp]
    rw [e0] at h1 h2
    refine ⟨h1.imp id fun h1 => ⟨List.mem_cons_of_mem _ h1.1, h1.2⟩, h2, fun q hq hoq => ?_⟩
    rcases List.mem_cons.1 hq with rfl | hq
    . exact absurd hoq hp
    . exact h3 q hq hoq
theorem newer_iff (p q : af) : eB p q = true ↔ (ee q.zone).1 < (ee p.zone).1 \/ ((ee p.zone).1 = (ee q.zone).1 /\ p.host < q.host) := by
 unfold eB; simp
theorem newer_irr (p : af) : eB p p = false := by
 rw [<- Bool.not_eq_true, newer_iff]; omega
theorem newer_tr (p q r : af) (h : eB p q = true) (k : eB q r = true) : eB p r = true := by
 rw [newer_iff] at h k ⊢; omega
theorem copy_top {zs : List af} {a : Bs} {x : Nat × af} (h : oD zs a = some x) : x.2 ∈ zs /\ x.2.zone.apex = a /\ ∀ p ∈ zs, p.zone.apex = a -> eB p x.2 = false := by
 obtain ⟨h1, _, h3⟩ := best_top2 newer_irr newer_tr zs 0 none x h
 rcases h1 with h1 | h1
 . cases h1
 . exact ⟨h1.1, by simpa using h1.2, fun p hp ha => h3 p hp (by simpa using ha)⟩
theorem copy_none {zs : List af} {a : Bs} : oD zs a = none ↔ ∀ p ∈ zs, p.zone.apex ≠ a := by
 unfold oD
 rw [mQ]
 simp
theorem copy_same {zs zs' : List af} (hp : zs.Pairwise (fun x p => cr p x = false)) (hm : ∀ p, p ∈ zs ↔ p ∈ zs') (a : Bs) : (oD zs a).map (·.2) = (oD zs' a).map (·.2) := by
 cases h : oD zs a with
 | none =>
  have : oD zs' a = none := copy_none.2 fun p hp => copy_none.1 h p ((hm p).2 hp)
  rw [this]
 | some x =>
  obtain ⟨x1, x2, x3⟩ := copy_top h
  cases h' : oD zs' a with
  | none => exact absurd x2 (copy_none.1 h' x.2 ((hm _).1 x1))
  | some y =>
   obtain ⟨y1, y2, y3⟩ := copy_top h'
   have g1 := x3 y.2 ((hm _).2 y1) y2
   have g2 := y3 x.2 ((hm _).1 x1) x2
   have hh : x.2.host = y.2.host := by
    rw [<- Bool.not_eq_true, newer_iff] at g1 g2
    omega
   have := vA hp x1 ((hm _).2 y1) hh (x2.trans y2.symm)
   exact congrArg some this
theorem treeAns_congr {zs zs' : List af} (h : ∀ a, (oD zs a).map (·.2) = (oD zs' a).map (·.2)) (q : ay) : ∀ (f : Nat) (a : Bs), iK zs (eE zs) q f a = iK zs' (eE zs') q f a
 | 0, a => rfl
 | f + 1, a => by
  rw [Iv, Iv]
  have := h a
  cases hx : oD zs a with
  | none =>
   cases hy : oD zs' a with
   | none => rfl
   | some y => rw [hx, hy] at this; cases this
  | some x =>
   cases hy : oD zs' a with
   | none => rw [hx, hy] at this; cases this
   | some y =>
    rw [hx, hy] at this
    have e : x.2 = y.2 := Option.some.inj this
    dsimp only
    rw [e, treeAns_congr h q f]
theorem truthGo_congr {zs zs' : List af} (h : ∀ a, (oD zs a).map (·.2) = (oD zs' a).map (·.2)) : ∀ (f : Nat) (q : ay) (kept : List Signed), iL zs f q kept = iL zs' f q kept
 | 0, q, kept => rfl
 | f + 1, q, kept => by
  have e : cD zs q = cD zs' q := treeAns_congr h q _ _
  unfold iL
  rw [e]
  split
  . rfl
  . split
    . rfl
    . cases (cD zs' q).1.sets.head? with
      | none => rfl
      | some s =>
       dsimp only
       cases s.set.data.head? with
       | none => rfl
       | some d => exact truthGo_congr h f _ _
theorem truth_congr {w w' : bg} {q : ay} (hv : bt w = true) (hv' : bt w' = true) (hq : bc q = true) (h : ∀ a, (oD w.zones a).map (·.2) = (oD w'.zones a).map (·.2)) : ir w q = ir w' q := by
 rw [truthR_go hv hq, truthR_go hv' hq, truthGo_congr h]
theorem best_append {ok : af -> Bool} {better : af -> af -> Bool} (p : af) : ∀ (l : List af) (i : Nat) (b : Option (Nat × af)), eS ok better i (l ++ [p]) b = cj ok better (i + l.length) p (eS ok better i l b)
 | [], i, b => rfl
 | x :: t, i, b => by
  show eS ok better (i + 1) (t ++ [p]) (cj ok better i x b) = _
  rw [best_append p t (i + 1)]
  have : i + 1 + t.length = i + (x :: t).length := by simp; omega
  rw [this]; rfl
theorem copy_older {zs : List af} {o : af} {x : Nat × af} (hx : oD zs o.zone.apex = some x) (ho : (ee o.zone).1 < (ee x.2.zone).1) (a : Bs) : (oD (zs ++ [o]) a).map (·.2) = (oD zs a).map (·.2) := by
 unfold oD
 rw [best_append]
 by_cases ha : o.zone.apex = a
 . subst ha
   unfold oD at hx
   rw [hx]
   unfold cj
   rw [if_pos (by simp)]
   dsimp only
   rw [if_neg (by rw [newer_iff]; omega)]
 . unfold cj
   rw [if_neg (by simpa using ha)]
def renH : Nat -> List ja -> List ja
 | _, [] => []
 | i, h :: t => ⟨[113], 1000 + (i : Int), h.owner⟩ :: renH (i + 1) t
theorem renH_len : ∀ (i : Nat) (l : List ja), (renH i l).length = l.length
 | _, [] => rfl
 | i, h :: t => by rw [renH, List.length_cons, List.length_cons, renH_len (i + 1) t]
theorem hostsGo_owner : ∀ (l : List ja) (seen : List Int), gJ seen l = true -> ∀ h ∈ l, 0 <= h.owner /\ h.owner < 32
 | [], _, _, h, hh => by cases hh
 | x :: t, seen, hg, h, hh => by
  unfold gJ at hg
  simp only [Bool.and_eq_true, Bool.not_eq_true', Bool.or_eq_false_iff, decide_eq_false_iff_not] at hg
  rcases List.mem_cons.1 hh with rfl | hh
  . omega
  . exact hostsGo_owner t _ hg.2 h hh
theorem renH_good : ∀ (l : List ja) (i : Nat) (seen : List Int), (∀ s ∈ seen, s < 1000 + (i : Int)) -> i + l.length <= 1000 -> (∀ h ∈ l, 0 <= h.owner /\ h.owner < 32) -> gJ seen (renH i l) = true
 | [], _, _, _, _, _ => rfl
 | h :: t, i, seen, hs, hl, ho => by
  rw [List.length_cons] at hl
  have h1 := ho h (List.mem_cons_self ..)
  unfold renH gJ
  have hv : ah [113] = true := by decide
  have hwl : pf [113] = false := by decide
  have hc : seen.contains (1000 + (i : Int)) = false := by
   rw [Bool.eq_false_iff]
   intro e
   have := hs _ (List.contains_iff_mem.1 e)
   omega
  have hrec := renH_good t (i + 1) (seen ++ [1000 + (i : Int)]) (fun s hs' => by
   rcases List.mem_append.1 hs' with h | h
   . have := hs s h; omega
   . rw [List.mem_singleton] at h; omega) (by omega) fun x hx => ho x (List.mem_cons_of_mem _ hx)
  dsimp only
  rw [hv, hwl, hc, hrec]
  have e1 : decide (h.owner < 0) = false := decide_eq_false (by omega)
  have e2 : decide (h.owner >= 32) = false := decide_eq_false (by omega)
  have e3 : dq (1000 + (i : Int)) = true := by unfold dq; simp; omega
  rw [e1, e2, e3]; rfl
def otherW (w : bg) : bg := ⟨renH 0 w.hosts, w.zones.reverse, w.anchor, w.hints⟩
theorem other_valid {w : bg} (h : bt w = true) : bt (otherW w) = true := by
 unfold bt iU ix at h ⊢
 simp only [Bool.and_eq_true, decide_eq_true_eq] at h ⊢
 obtain ⟨⟨⟨a1, a2⟩, ⟨b1, b2⟩, b3⟩, c⟩ := h
 have e : (otherW w).hosts.length = w.hosts.length := renH_len 0 _
 refine ⟨⟨⟨by rw [e]; exact a1, renH_good w.hosts 0 [] (fun s hs => by cases hs) (by omega) (hostsGo_owner _ _ a2)⟩, ⟨by show (w.zones.reverse.length : Int) <= 4000; rw [List.length_reverse]; exact b1, ?_⟩, ?_⟩, c⟩
 . rw [e]
   show cP w.hosts.length [] w.zones.reverse = true
   rw [copiesGo_iff] at b2 ⊢
   refine ⟨fun p hp => b2.1 p (List.mem_reverse.1 hp), ?_⟩
   rw [List.pairwise_reverse]
   refine b2.2.imp fun {a b} hab => ?_
   unfold cr at hab ⊢
   rw [Bool.and_eq_false_iff] at hab ⊢
   rcases hab with hab | hab
   . left; rw [beq_eq_false_iff_ne] at hab ⊢; exact Ne.symm hab
   . right; rw [beq_eq_false_iff_ne] at hab ⊢; exact Ne.symm hab
 . show ((apx w.zones.reverse).length : Int) <= 500
   have := apexes_sub (l := w.zones) (l' := w.zones.reverse) fun p hp => List.mem_reverse.1 hp
   rw [Gl] at b3 ⊢
   omega
theorem other_truth {w : bg} {q : ay} (hv : bt w = true) (hq : bc q = true) : ir (otherW w) q = ir w q :=
 (truth_congr hv (other_valid hv) hq fun a => copy_same (zD hv) (fun p => List.mem_reverse.symm) a).symm
end NP

set_option maxRecDepth 100000
namespace NP
open NQ Go
theorem renH_append : ∀ (i : Nat) (a b : List ja), renH i (a ++ b) = renH i a ++ renH (i + a.length) b
 | i, [], b => by simp [renH]
 | i, h :: t, b => by
  have : i + 1 + t.length = i + (h :: t).length := by simp; omega
  rw [List.cons_append, renH, renH_append (i + 1) t b, this]; rfl
def oO (l : List ja) (k : Nat) : List ja := renH 0 (l.take k) ++ l.drop k
theorem partH_get {l : List ja} {k : Nat} {h : ja} (hk : l[k]? = some h) : (oO l k)[k]? = some h := by
 have hlt := (List.getElem?_eq_some_iff.1 hk).1
 unfold oO
 rw [List.getElem?_append_right (by rw [renH_len, List.length_take]; omega), renH_len, List.length_take, Nat.min_eq_left (by omega), Nat.sub_self, drop_cons hk]; rfl
theorem partH_len (l : List ja) (k : Nat) : (oO l k).length = l.length := by
 unfold oO; rw [List.length_append, renH_len, <- List.length_append, List.take_append_drop]
theorem partH_set {l : List ja} {k : Nat} {h : ja} (hk : l[k]? = some h) : (oO l k).set k ⟨[113], 1000 + (k : Int), h.owner⟩ = oO l (k + 1) := by
 have hlt := (List.getElem?_eq_some_iff.1 hk).1
 unfold oO
 have hl : (renH 0 (l.take k)).length = k := by rw [renH_len, List.length_take]; omega
 have hl2 : (l.take k).length = k := by rw [List.length_take]; omega
 rw [List.set_append_right _ _ (by omega), hl, Nat.sub_self, drop_cons hk, bF hk, renH_append, hl2, Nat.zero_add]
 show renH 0 (l.take k) ++ ⟨[113], 1000 + (k : Int), h.owner⟩ :: l.drop (k + 1) = (renH 0 (l.take k) ++ renH k [h]) ++ l.drop (k + 1)
 rw [List.append_assoc]; rfl
theorem partH_all (l : List ja) : oO l l.length = renH 0 l := by unfold oO; rw [List.take_length, List.drop_length, List.append_nil]
theorem revp_get {α : Type} {l : List α} {k : Nat} (hk : k < l.length) : l.reverse[k]? = l[l.length - 1 - k]? := by
 rw [List.getElem?_reverse hk]
theorem setB_datum0 {s : gP} (h : cv s = true) : ∃ d, s.data[0]? = some d /\ dV (dB s.type) d = true := by
 obtain ⟨d, hd⟩ := vH h
 refine ⟨d, hd, ?_⟩
 unfold cv at h
 simp only [Bool.and_eq_true] at h
 have hl := (List.getElem?_eq_some_iff.1 hd).1
 have := List.all_eq_true.1 h.2 0 (List.mem_range.2 hl)
 rw [xj (d := d) (p := d) hd hd] at this
 unfold mc at this
 simp at this
 exact this
theorem u16_16 {n : Int} (h : (Lit.int .u16 n).wf = true) : 0 <= n /\ n <= 65535 := by
 simp [Lit.wf, IntKind.min, IntKind.max, IntKind.signed, IntKind.bits] at h
 omega
end NP
namespace Go.Proofs.YtnbnldnfkikakaaGreatDoor
open NQ Go NP Go.RowKit
noncomputable def cxO : Cx := { cx with chg := fun g => match Nat.beq g 22 with | true => 5 | false => cx.chg g }
theorem tyO : aP cxO := az
theorem mixedO : cxO.P.follows .mixedOrders = true := mixed
def fzOl : Nat -> List Nat
 | 7 => [55555]
 | 14 => [55555]
 | 17 => [66666]
 | 19 => [55555]
 | 22 => [55555]
 | 28 => [55555]
 | 29 => [173]
 | 33 => [55555, 66666]
 | 34 => [55555]
 | _ => []
theorem older_fin (w m : bg) (q : ay) (T : Ans × Int) (sT : sY T.1) (hFm : l7 m) (hmore : bt m = true -> ir m q = T) (st : St)
 (hs : ai cxO st ⟨[(9, .ptr 9 0), (11, .d (.bool true)), (12, .ptr 12 0), (13, .d (.int .i64 T.2)), (26, .ptr 26 0)], [(9, .box ((bE q).map .d)), (12, .box ((eh T.1).map .d)), (26, .box ((bz m).map .d))]⟩) :
 vc cxO Tryz.f9.ntmps fzOl (BR 21 ((Tryz.f9.body).getD .skip)) (fnQ cxO Tryz.f9.results.toList (.d (.bool true)) []) st := by
 have f2 := BX m hFm
 have f4 := IH _ sT
 cases hv : bt m with
 | false =>
  rw [hv] at f2
  conv => whnf
  refine ⟨_, hs, ?_⟩
  conv => whnf
  (refine ⟨_, _, f2, ?_⟩; conv => whnf)
  exact ae rfl rfl
 | true =>
  rw [hv] at f2
  have f3 := yC m q hFm
  rw [hmore hv] at f3
  conv => whnf
  refine ⟨_, hs, ?_⟩
  conv => whnf
  (refine ⟨_, _, f2, ?_⟩; conv => whnf)
  (refine ⟨_, _, f3, ?_⟩; conv => whnf)
  rw [show (T.2 == T.2) = true from beq_self_eq_true _]
  conv => whnf
  (refine ⟨_, _, f4, ?_⟩; conv => whnf)
  exact ae rfl rfl
set_option maxHeartbeats 4000000 in
theorem older_end (w : bg) (q : ay) (T : Ans × Int) (hT : T = ir w q) (sT : sY T.1) (o : af) (hF : l7 w) (hl : w.zones.length <= 20) (hof : ep o.zone = true) (hval : bt w = true) (hq : bc q = true)
 (hold : ∃ x, oD w.zones o.zone.apex = some x /\ (aO o.zone = true -> (ee o.zone).1 < (ee x.2.zone).1)) (st : St)
 (hs : ai cxO st ⟨[(5, .ptr 5 0), (9, .ptr 9 0), (11, .d (.bool true)), (12, .ptr 12 0), (13, .d (.int .i64 T.2)), (19, .ptr 19 0)], [(5, .box ((bz w).map .d)), (9, .box ((bE q).map .d)), (12, .box ((eh T.1).map .d)), (19, .box ((aQ o).map .d))]⟩) :
 vc cxO Tryz.f9.ntmps fzOl (BR 20 ((Tryz.f9.body).getD .skip)) (fnQ cxO Tryz.f9.results.toList (.d (.bool true)) []) st := by
 have hFm : l7 (I5 w (w.zones ++ [o])) := ⟨hF.hosts, by show (w.zones ++ [o]).length <= _; simp; omega, hF.hints, fun p hp => by
  rcases List.mem_append.1 hp with hp | hp
  . exact hF.few p hp
  . rw [List.mem_singleton] at hp; subst hp; exact hof⟩
 have f1 := I9 w (w.zones ++ [o])
 rw [List.map_append] at f1
 have f2 := BX (I5 w (w.zones ++ [o])) hFm
 have f3 := yC (I5 w (w.zones ++ [o])) q hFm
 have f4 := IH _ sT
 have hmore : bt (I5 w (w.zones ++ [o])) = true -> ir (I5 w (w.zones ++ [o])) q = T := fun hv => by
  obtain ⟨x, hx, hser⟩ := hold
  have ho : aO o.zone = true := (mM hv o (by show o ∈ w.zones ++ [o]; simp)).1
  rw [hT]
  exact (truth_congr hval hv hq fun a => (copy_older hx (hser ho) a).symm).symm
 have hfin := older_fin w (I5 w (w.zones ++ [o])) q T sT hFm hmore
 conv => whnf
 refine ⟨_, hs, ?_⟩
 conv => whnf
 (refine ⟨(by kernel_rfl : lW _ = true), ?_⟩; conv => whnf)
 repeat' (first
  | (refine ⟨_, _, f1, ?_⟩; conv => whnf)
  | (refine ⟨by (show 0 + (w.zones.map aQ).length <= _); rw [List.length_map]; omega, by (show (0 + (w.zones.map aQ).length) * 48 <= _); rw [List.length_map]; omega, ?_⟩; conv => whnf)
  | (refine ⟨by (show (w.zones.map aQ).length + 1 <= _); rw [List.length_map]; omega, by (show ((w.zones.map aQ).length + 1) * 48 <= _); rw [List.length_map]; omega, ?_⟩; conv => whnf)
  | (refine ⟨by kernel_rfl, ?_⟩; conv => whnf)
  | exact hfin _ (ai.keep ⟨⟨rfl, rfl⟩, ⟨rfl, rfl⟩, ⟨rfl, rfl⟩, ⟨rfl, rfl⟩, ⟨rfl, rfl⟩, trivial⟩ ⟨⟨rfl, rfl⟩, ⟨rfl, rfl⟩, ⟨rfl, rfl⟩, trivial⟩)
  | (refine ⟨?_, ?_⟩ <;> (conv => whnf))
  | fail)
theorem serial_range {z : aq} (hv : aO z = true) : 0 <= gp z /\ gp z <= 65535 := by
 have V := rb.1 hv
 obtain ⟨s, hs, hm, hp⟩ := oI V.ord (q := ⟨z.apex, 4⟩) V.ord.apex V.start
 have et : s.set.type = 4 := congrArg Prod.snd hp
 obtain ⟨d, hd, hdv⟩ := setB_datum0 (V.ord.set s hm)
 have hr : dB 4 = ⟨0, 0, 65535, 0, 100000, false, true, false⟩ := rfl
 rw [et, hr] at hdv
 unfold dV within at hdv
 simp only [Bool.and_eq_true, decide_eq_true_eq] at hdv
 unfold gp
 rw [hs]
 dsimp only
 rw [hd]
 exact hdv.1.1.1
set_option maxHeartbeats 2000000 in
theorem older_mid (w : bg) (q : ay) (wh ho se : Nat) (h1 : wh <= 255) (h2 : ho <= 255) (h3 : se <= 65535) (T : Ans × Int) (hT : T = ir w q) (sT : sY T.1) (hF : l7 w) (hl : w.zones.length <= 20) (hz : 0 < w.zones.length) (hval : bt w = true) (hq : bc q = true) (st : St)
 (hs : ai cxO st ⟨[(1, .d (.int .u8 wh)), (2, .d (.int .u8 ho)), (3, .d (.int .u16 se)), (5, .ptr 5 0), (9, .ptr 9 0), (11, .d (.bool true)), (12, .ptr 12 0), (13, .d (.int .i64 T.2))], [(5, .box ((bz w).map .d)), (9, .box ((bE q).map .d)), (12, .box ((eh T.1).map .d))]⟩) :
 vc cxO Tryz.f9.ntmps fzOl (BR 11 ((Tryz.f9.body).getD .skip)) (fnQ cxO Tryz.f9.results.toList (.d (.bool true)) []) st := by
 have hg := mM hval
 obtain ⟨K, hK⟩ : ∃ K, K = wh % w.zones.length := ⟨_, rfl⟩
 have hKl : K < w.zones.length := by rw [hK]; exact Nat.mod_lt _ hz
 obtain ⟨p, hp⟩ : ∃ p, w.zones[K]? = some p := ⟨_, List.getElem?_eq_getElem hKl⟩
 have hpm := List.mem_of_getElem? hp
 have hpv := (hg p hpm).1
 have hhl : 0 < w.hosts.length := by have := hg p hpm; omega
 have V := rb.1 hpv
 obtain ⟨s, hsm, hsp, hfi⟩ := GH hpv (q := ⟨p.zone.apex, 4⟩) (by unfold bc; rw [V.ord.apex]; rfl) V.start
 have fFind := Jm p.zone ⟨p.zone.apex, 4⟩
 rw [hfi] at fFind
 cases hx : oD w.zones p.zone.apex with
 | none => exact absurd rfl (copy_none.1 hx p hpm)
 | some x =>
 have hxz := Em _ _ x hx
 obtain ⟨hxm, hxa, _⟩ := copy_top hx
 have hxv := (hg _ hxm).1
 have fC := Ja w.zones p.zone.apex (fun p hp => (hg p hp).1) (by omega)
 rw [hx] at fC
 have fS := rR x.2.zone hxv
 obtain ⟨r1, r2⟩ := serial_range hxv
 have hend := older_end w q T hT sT
 generalize hN : gp x.2.zone = M at *
 have ew : IntKind.i64.wrap (wh : Int) = (wh : Int) := wrap_i64 (by omega) (by omega)
 have eo : IntKind.i64.wrap (ho : Int) = (ho : Int) := wrap_i64 (by omega) (by omega)
 have es : IntKind.i64.wrap (se : Int) = (se : Int) := wrap_i64 (by omega) (by omega)
 have er := rem16_val (t := 3) (IntKind.i64.wrap (wh : Int)) (((w.zones.map aQ).length : Nat) : Int) (by rw [List.length_map]; omega)
 have ek : (IntKind.i64.wrap (wh : Int)).tmod (((w.zones.map aQ).length : Nat) : Int) = (K : Int) := by
  rw [ew, List.length_map, Int.tmod_eq_emod_of_nonneg (by omega), hK]; rfl
 rw [ek] at er
 obtain ⟨J, hJ⟩ : ∃ J, J = ho % w.hosts.length := ⟨_, rfl⟩
 have er2 := rem16_val (t := 3) (IntKind.i64.wrap (ho : Int)) (((w.hosts.map du).length : Nat) : Int) (by rw [List.length_map]; omega)
 have ek2 : (IntKind.i64.wrap (ho : Int)).tmod (((w.hosts.map du).length : Nat) : Int) = (J : Int) := by
  rw [eo, List.length_map, Int.tmod_eq_emod_of_nonneg (by omega), hJ]; rfl
 rw [ek2] at er2
 conv => whnf
 refine ⟨_, hs, ?_⟩
 conv => whnf
 (refine ⟨(by kernel_rfl : aH _ _ = true), ?_⟩; conv => whnf)
 split
 case h_2 hb => exact absurd (hb.symm.trans er) (by simp)
 case h_1 hb =>
 cases hb.symm.trans er
 conv => whnf
 refine ⟨Int.natCast_nonneg K, aQ p, ax hp, ?_⟩
 conv => whnf
 split
 case h_2 hb => exact absurd (hb.symm.trans er2) (by simp)
 case h_1 hb =>
 cases hb.symm.trans er2
 conv => whnf
 (refine ⟨(by kernel_rfl : aH _ _ = true), ?_⟩; conv => whnf)
 (refine ⟨_, _, fC, ?_⟩; conv => whnf)
 refine ⟨Int.natCast_nonneg x.1, aQ x.2, ax hxz, ?_⟩
 conv => whnf
 (refine ⟨_, _, fS, ?_⟩; conv => whnf)
 (refine ⟨_, _, fFind, ?_⟩; conv => whnf)
 refine ab (fun g1 => ?_) (fun g1 => ?_) <;> (rw [g1]; conv => whnf)
 . exact ae rfl rfl
 have hM : M ≠ 0 := by simpa using g1
 obtain ⟨n, hn⟩ : ∃ n : Int, n = (se : Int).tmod M := ⟨_, rfl⟩
 have hn0 : 0 <= n := by rw [hn]; exact Int.tmod_nonneg _ (by omega)
 have hn1 : n < M := by rw [hn, Int.tmod_eq_emod_of_nonneg (by omega)]; exact Int.emod_lt_of_pos _ (by omega)
 obtain ⟨p1, p2, p3⟩ := start_put hpv hsm hsp hn0 (show n <= 65535 by omega)
 have fP := Jt p.zone (newStart s n)
 rw [p1] at fP
 have er3 := rem16_val (t := 3) (IntKind.i64.wrap (se : Int)) M hM
 rw [show (IntKind.i64.wrap (se : Int)).tmod M = n by rw [es, hn]] at er3
 refine ⟨⟨[(3, .d (.int .u16 se)), (5, .ptr 5 0), (9, .ptr 9 0), (11, .d (.bool true)), (12, .ptr 12 0), (13, .d (.int .i64 T.2)), (19, .ptr 19 0), (20, .d (.int .i64 M)), (21, .ptr 21 0)], [(5, .box ((bz w).map .d)), (9, .box ((bE q).map .d)), (12, .box ((eh T.1).map .d)), (19, .box ((aQ ⟨J, p.zone⟩).map .d)), (21, .box ((aj s).map .d))]⟩, ai.keep ⟨⟨rfl, rfl⟩, ⟨rfl, rfl⟩, ⟨rfl, rfl⟩, ⟨rfl, rfl⟩, ⟨rfl, rfl⟩, ⟨rfl, rfl⟩, ⟨rfl, rfl⟩, ⟨rfl, rfl⟩, ⟨rfl, rfl⟩, trivial⟩ ⟨⟨rfl, rfl⟩, ⟨rfl, rfl⟩, ⟨rfl, rfl⟩, ⟨rfl, rfl⟩, ⟨rfl, rfl⟩, trivial⟩, ?_⟩
 conv => whnf
 split
 case h_2 hb => exact absurd (hb.symm.trans er3) (by simp)
 case h_1 hb =>
 cases hb.symm.trans er3
 conv => whnf
 (refine ⟨_, _, fP, ?_⟩; conv => whnf)
 refine hend ⟨J, bp p.zone (newStart s n)⟩ hF hl (start_few hpv (hF.few p hpm) hsm n) hval hq ⟨x, hx, fun hv => ?_⟩ _ (ai.keep ⟨⟨rfl, rfl⟩, ⟨rfl, rfl⟩, ⟨rfl, rfl⟩, ⟨rfl, rfl⟩, ⟨rfl, rfl⟩, ⟨rfl, rfl⟩, trivial⟩ ⟨⟨rfl, rfl⟩, ⟨rfl, rfl⟩, ⟨rfl, rfl⟩, ⟨rfl, rfl⟩, trivial⟩)
 have e1 : ee (bp p.zone (newStart s n)) = (n, 0) := by unfold ee; rw [p2, if_neg (by simp), p3]
 have e2 : ee x.2.zone = (M, 0) := by unfold ee; rw [hxv, if_neg (by simp), hN]
 show (ee (bp p.zone (newStart s n))).1 < (ee x.2.zone).1
 rw [e1, e2]; exact hn1
set_option maxHeartbeats 2000000 in
theorem worldOlder_fn (w : bg) (which : Int) (hw : (Lit.int .u8 which).wf = true) (host : Int) (hho : (Lit.int .u8 host).wf = true) (serial : Int) (hse : (Lit.int .u16 serial).wf = true) (q : ay) :
 NQ.Fn cx 9 [.agg (bz w), .int .u8 which, .int .u8 host, .int .u16 serial, .agg (bE q)] (.d (.bool true)) [] := by
 obtain ⟨wh, rfl⟩ : ∃ n : Nat, which = n := ⟨which.toNat, by have := (u8_16 hw).1; omega⟩
 obtain ⟨ho, rfl⟩ : ∃ n : Nat, host = n := ⟨host.toNat, by have := (u8_16 hho).1; omega⟩
 obtain ⟨se, rfl⟩ : ∃ n : Nat, serial = n := ⟨serial.toNat, by have := (u16_16 hse).1; omega⟩
 have h1 : wh <= 255 := by have := (u8_16 hw).2; omega
 have h2 : ho <= 255 := by have := (u8_16 hho).2; omega
 have h3 : se <= 65535 := by have := (u16_16 hse).2; omega
 show NQ.Fn cxO _ _ _ _
 have fU := IK w q
 cases hu : (ko w && bt w && bc q) with
 | false =>
  rw [hu] at fU
  refine de fzOl tyO mixedO Tryz.func9 (by kernel_rfl) rfl (Nat.le_of_ble_eq_true rfl) ?_
  conv => whnf
  (refine ⟨_, _, I8, ?_⟩; conv => whnf)
  (refine ⟨_, _, fU, ?_⟩; conv => whnf)
  exact ae rfl rfl
 | true =>
 rw [hu] at fU
 simp only [Bool.and_eq_true] at hu
 obtain ⟨⟨hfew, hval⟩, hq⟩ := hu
 obtain ⟨hF, hn1, hn2, hn3⟩ := EJ hfew
 have hFo : l7 (otherW w) := ⟨by show (renH 0 w.hosts).length <= _; rw [renH_len]; omega, by show w.zones.reverse.length <= _; rw [List.length_reverse]; omega, hF.hints, fun p hp => hF.few p (List.mem_reverse.1 hp)⟩
 have f1 := yC w q hF
 have f2 := yC (otherW w) q hFo
 rw [other_truth hval hq] at f2
 have sT := IJ hF q
 have f3 := IH _ sT
 have hmid := older_mid w q wh ho se h1 h2 h3 _ rfl sT hF hn2
 generalize ir w q = T at *
 refine de fzOl tyO mixedO Tryz.func9 (by kernel_rfl) rfl (Nat.le_of_ble_eq_true rfl) ?_
 conv => whnf
 (refine ⟨_, _, I8, ?_⟩; conv => whnf)
 (refine ⟨_, _, fU, ?_⟩; conv => whnf)
 refine ab (fun g1 => ?_) (fun g1 => ?_) <;> (rw [g1]; conv => whnf)
 . exact ae rfl rfl
 have hz : 0 < w.zones.length := by
  rcases Nat.eq_zero_or_pos w.zones.length with e | e
  . exfalso
    have : (((w.zones.map aQ).length : Int) == 0) = true := by rw [List.length_map, e]; rfl
    exact absurd (this.symm.trans g1) (by simp)
  . exact e
 (refine ⟨_, _, f1, ?_⟩; conv => whnf)
 refine ⟨by (show 0 + (w.hosts.map du).length <= _); rw [List.length_map]; omega, by (show (0 + (w.hosts.map du).length) * 32 <= _); rw [List.length_map]; omega, ?_⟩
 conv => whnf
 refine ⟨⟨[(1, .d (.int .u8 wh)), (2, .d (.int .u8 ho)), (3, .d (.int .u16 se)), (5, .ptr 5 0), (9, .ptr 9 0), (11, .d (.bool true)), (12, .ptr 12 0), (13, .d (.int .i64 T.2)), (14, .ptr 14 0)], [(5, .box ((bz w).map .d)), (9, .box ((bE q).map .d)), (12, .box ((eh T.1).map .d)), (14, .box (.own 48 :: ((bz w).drop 1).map .d)), (48, .row 51 3 ((oO w.hosts 0).map du))]⟩, ai.keep ⟨⟨rfl, rfl⟩, ⟨rfl, rfl⟩, ⟨rfl, rfl⟩, ⟨rfl, rfl⟩, ⟨rfl, rfl⟩, ⟨rfl, rfl⟩, ⟨rfl, rfl⟩, ⟨rfl, rfl⟩, ⟨rfl, rfl⟩, trivial⟩ ⟨⟨rfl, rfl⟩, ⟨rfl, rfl⟩, ⟨rfl, rfl⟩, ⟨rfl, rfl⟩, ⟨rfl, rfl⟩, trivial⟩, ?_⟩
 conv => whnf
 refine ⟨Nat, fun k => ⟨[(1, .d (.int .u8 wh)), (2, .d (.int .u8 ho)), (3, .d (.int .u16 se)), (5, .ptr 5 0), (9, .ptr 9 0), (11, .d (.bool true)), (12, .ptr 12 0), (13, .d (.int .i64 T.2)), (14, .ptr 14 0), (55, .d (.int .i64 w.hosts.length)), (56, .d (.int .i64 k))], [(5, .box ((bz w).map .d)), (9, .box ((bE q).map .d)), (12, .box ((eh T.1).map .d)), (14, .box (.own 48 :: ((bz w).drop 1).map .d)), (48, .row 51 3 ((oO w.hosts k).map du))]⟩,
  fun k => k <= w.hosts.length, fun k => w.hosts.length - k,
  ⟨0, Nat.zero_le _, ai.keep ⟨⟨rfl, rfl⟩, ⟨rfl, rfl⟩, ⟨rfl, rfl⟩, ⟨rfl, rfl⟩, ⟨rfl, rfl⟩, ⟨rfl, rfl⟩, ⟨rfl, rfl⟩, ⟨rfl, rfl⟩, ⟨rfl, rfl⟩, ⟨?_, rfl⟩, ⟨rfl, rfl⟩, trivial⟩ ⟨⟨rfl, rfl⟩, ⟨rfl, rfl⟩, ⟨rfl, rfl⟩, ⟨rfl, rfl⟩, ⟨rfl, rfl⟩, trivial⟩⟩, fun k hk => ?_⟩
 . show AV.d (.int .i64 (((oO w.hosts 0).map du).length : Int)) = AV.d (.int .i64 (w.hosts.length : Int))
   rw [List.length_map, partH_len]
 conv => whnf
 refine ab (fun g2 => ?_) (fun g2 => ?_) <;> (rw [g2]; conv => whnf)
 . have hlt : k < w.hosts.length := by simpa using g2
   obtain ⟨h, hh⟩ : ∃ h, w.hosts[k]? = some h := ⟨_, List.getElem?_eq_getElem hlt⟩
   have hp := partH_get hh
   refine ⟨Int.natCast_nonneg k, by (show k < ((oO w.hosts k).map du).length); rw [List.length_map, partH_len]; exact hlt, ?_⟩
   conv => whnf
   refine ⟨du h, ax hp, ?_⟩
   conv => whnf
   refine ⟨Int.natCast_nonneg k, by (show k < (((oO w.hosts k).map du).set k _).length); rw [List.length_set, List.length_map, partH_len]; exact hlt, ?_⟩
   conv => whnf
   refine ⟨_, List.getElem?_set_self (by (show k < ((oO w.hosts k).map du).length); rw [List.length_map, partH_len]; exact hlt), ?_⟩
   conv => whnf
   refine ⟨k + 1, hlt, by (show w.hosts.length - (k + 1) < w.hosts.length - k; omega), ai.keep ⟨⟨rfl, rfl⟩, ⟨rfl, rfl⟩, ⟨rfl, rfl⟩, ⟨rfl, rfl⟩, ⟨rfl, rfl⟩, ⟨rfl, rfl⟩, ⟨rfl, rfl⟩, ⟨rfl, rfl⟩, ⟨rfl, rfl⟩, ⟨rfl, rfl⟩, ⟨ak (by omega), rfl⟩, trivial⟩ ⟨⟨rfl, rfl⟩, ⟨rfl, rfl⟩, ⟨rfl, rfl⟩, ⟨rfl, rfl⟩, ⟨?_, rfl⟩, trivial⟩⟩
   have ew : IntKind.i64.wrap (1000 + (k : Int)) = 1000 + (k : Int) := wrap_i64 (by omega) (by omega)
   show some (Blk.row _ _ ((((oO w.hosts k).map du).set k [.str h.name, .int .i64 (IntKind.i64.wrap (1000 + (k : Int))), .int .i64 h.owner]).set k [.str [113], .int .i64 (IntKind.i64.wrap (1000 + (k : Int))), .int .i64 h.owner]) _) = some (Blk.row _ _ ((oO w.hosts (k + 1)).map du) _)
   rw [List.set_set, <- partH_set hh, List.map_set, ew]; rfl
 . obtain rfl : k = w.hosts.length := by simp at g2; omega
   refine ⟨⟨[(1, .d (.int .u8 wh)), (2, .d (.int .u8 ho)), (3, .d (.int .u16 se)), (5, .ptr 5 0), (9, .ptr 9 0), (11, .d (.bool true)), (12, .ptr 12 0), (13, .d (.int .i64 T.2)), (14, .ptr 14 0)], [(5, .box ((bz w).map .d)), (9, .box ((bE q).map .d)), (12, .box ((eh T.1).map .d)), (14, .box (.own 48 :: .nil 3 :: ((bz w).drop 2).map .d)), (48, .row 51 3 ((renH 0 w.hosts).map du))]⟩, ai.keep ⟨⟨rfl, rfl⟩, ⟨rfl, rfl⟩, ⟨rfl, rfl⟩, ⟨rfl, rfl⟩, ⟨rfl, rfl⟩, ⟨rfl, rfl⟩, ⟨rfl, rfl⟩, ⟨rfl, rfl⟩, ⟨rfl, rfl⟩, trivial⟩ ⟨⟨rfl, rfl⟩, ⟨rfl, rfl⟩, ⟨rfl, rfl⟩, ⟨rfl, rfl⟩, ⟨?_, rfl⟩, trivial⟩, ?_⟩
   . show some (Blk.row _ _ ((oO w.hosts w.hosts.length).map du) _) = _
     rw [partH_all]
   conv => whnf
   refine ⟨Nat, fun k => ⟨[(1, .d (.int .u8 wh)), (2, .d (.int .u8 ho)), (3, .d (.int .u16 se)), (5, .ptr 5 0), (9, .ptr 9 0), (11, .d (.bool true)), (12, .ptr 12 0), (13, .d (.int .i64 T.2)), (14, .ptr 14 0), (75, .d (.int .i64 ((w.zones.map aQ).length : Int))), (76, .d (.int .i64 k))], [(5, .box ((bz w).map .d)), (9, .box ((bE q).map .d)), (12, .box ((eh T.1).map .d)), (14, .box (.own 48 :: .own 200 :: ((bz w).drop 2).map .d)), (48, .row 51 3 ((renH 0 w.hosts).map du)), (200, .row 49 3 ((w.zones.reverse.take k).map aQ))]⟩,
    fun k => k <= w.zones.length, fun k => w.zones.length - k,
    ⟨0, Nat.zero_le _, (ai.tN 14 1 200 3 (.own 48 :: .nil 3 :: ((bz w).drop 2).map .d) 49 3 rfl rfl rfl (by decide)).trans (ai.keep ⟨⟨rfl, rfl⟩, ⟨rfl, rfl⟩, ⟨rfl, rfl⟩, ⟨rfl, rfl⟩, ⟨rfl, rfl⟩, ⟨rfl, rfl⟩, ⟨rfl, rfl⟩, ⟨rfl, rfl⟩, ⟨rfl, rfl⟩, ⟨rfl, rfl⟩, ⟨rfl, rfl⟩, trivial⟩ ⟨⟨rfl, rfl⟩, ⟨rfl, rfl⟩, ⟨rfl, rfl⟩, ⟨rfl, rfl⟩, ⟨rfl, rfl⟩, ⟨rfl, rfl⟩, trivial⟩)⟩, fun k hk => ?_⟩
   conv => whnf
   refine ab (fun g3 => ?_) (fun g3 => ?_) <;> (rw [g3]; conv => whnf)
   . have hlt : k < w.zones.length := by simpa using g3
     (refine ⟨(by kernel_rfl : lW _ = true), ?_⟩; conv => whnf)
     have hj : w.zones.length - 1 - k < w.zones.length := by omega
     obtain ⟨p, hp⟩ : ∃ p, w.zones[w.zones.length - 1 - k]? = some p := ⟨_, List.getElem?_eq_getElem hj⟩
     have hr : w.zones.reverse[k]? = some p := by rw [revp_get hlt]; exact hp
     have ew1 : IntKind.i64.wrap (IntKind.i64.wrap (((w.zones.map aQ).length : Int) - 1) - (k : Int)) = ((w.zones.length - 1 - k : Nat) : Int) := by
      have e1 : IntKind.i64.wrap ((w.zones.length : Int) - 1) = (w.zones.length : Int) - 1 := wrap_i64 (by omega) (by omega)
      rw [List.length_map, e1, wrap_i64 (by omega) (by omega)]; omega
     rw [ew1]
     refine ⟨Int.natCast_nonneg _, aQ p, ax hp, ?_⟩
     conv => whnf
     have htl : (w.zones.reverse.take k).length = k := by rw [List.length_take, List.length_reverse]; omega
     repeat' (first
      | (refine ⟨by (show ((w.zones.reverse.take k).map aQ).length + 1 <= _); rw [List.length_map]; omega, by (show (((w.zones.reverse.take k).map aQ).length + 1) * 48 <= _); rw [List.length_map]; omega, ?_⟩; conv => whnf)
      | (refine ⟨by kernel_rfl, ?_⟩; conv => whnf)
      | (refine ⟨k + 1, hlt, by (show w.zones.length - (k + 1) < w.zones.length - k; omega), ai.keep ⟨⟨rfl, rfl⟩, ⟨rfl, rfl⟩, ⟨rfl, rfl⟩, ⟨rfl, rfl⟩, ⟨rfl, rfl⟩, ⟨rfl, rfl⟩, ⟨rfl, rfl⟩, ⟨rfl, rfl⟩, ⟨rfl, rfl⟩, ⟨rfl, rfl⟩, ⟨ak (by omega), rfl⟩, trivial⟩ ⟨⟨rfl, rfl⟩, ⟨rfl, rfl⟩, ⟨rfl, rfl⟩, ⟨rfl, rfl⟩, ⟨rfl, rfl⟩, ⟨?_, rfl⟩, trivial⟩⟩; rw [bF hr, List.map_append]; rfl)
      | (refine ⟨?_, ?_⟩ <;> (conv => whnf))
      | fail)
   . obtain rfl : k = w.zones.length := by simp at g3; omega
     refine ⟨⟨[(1, .d (.int .u8 wh)), (2, .d (.int .u8 ho)), (3, .d (.int .u16 se)), (5, .ptr 5 0), (9, .ptr 9 0), (11, .d (.bool true)), (12, .ptr 12 0), (13, .d (.int .i64 T.2)), (14, .ptr 14 0)], [(5, .box ((bz w).map .d)), (9, .box ((bE q).map .d)), (12, .box ((eh T.1).map .d)), (14, .box ((bz (otherW w)).map .d))]⟩, (ai.frz16 [48, 200]).trans (ai.keep ⟨⟨rfl, rfl⟩, ⟨rfl, rfl⟩, ⟨rfl, rfl⟩, ⟨rfl, rfl⟩, ⟨rfl, rfl⟩, ⟨rfl, rfl⟩, ⟨rfl, rfl⟩, ⟨rfl, rfl⟩, ⟨rfl, rfl⟩, trivial⟩ ⟨⟨rfl, rfl⟩, ⟨rfl, rfl⟩, ⟨rfl, rfl⟩, ⟨?_, rfl⟩, trivial⟩), ?_⟩
     . show some (Blk.box (.d (.slice 3 ((renH 0 w.hosts).map du)) :: .d (.slice 3 ((w.zones.reverse.take w.zones.length).map aQ)) :: ((bz w).drop 2).map .d)) = _
       rw [List.take_of_length_le (by rw [List.length_reverse]; exact Nat.le_refl _)]; rfl
     conv => whnf
     (refine ⟨_, _, f2, ?_⟩; conv => whnf)
     rw [show (T.2 != T.2) = false from by simp]
     conv => whnf
     (refine ⟨_, _, f3, ?_⟩; conv => whnf)
     exact hmid hz hval hq _ (ai.keep ⟨⟨rfl, rfl⟩, ⟨rfl, rfl⟩, ⟨rfl, rfl⟩, ⟨rfl, rfl⟩, ⟨rfl, rfl⟩, ⟨rfl, rfl⟩, ⟨rfl, rfl⟩, ⟨rfl, rfl⟩, trivial⟩ ⟨⟨rfl, rfl⟩, ⟨rfl, rfl⟩, ⟨rfl, rfl⟩, trivial⟩)
end Go.Proofs.YtnbnldnfkikakaaGreatDoor
