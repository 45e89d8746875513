/-
  Texts of the proof, merged in build order.
-/
import Derived.Test.YtnbnldnfkikakaaGreatDoorMGja
import Derived.Test.YtnbnldnfkikakaaGreatDoorMQr
set_option linter.all false
set_option maxRecDepth 100000
namespace NP
open NQ Go
theorem under_between {s a b : Bs} (ha : ar s a = true) (hb : ar s b = true) (h : ie a <= ie b) : ar b a = true := by
 rw [cw] at ha hb ⊢
 refine List.prefix_of_prefix_length_le ha hb ?_
 unfold ie at h
 rw [back_eq, back_eq, List.length_reverse, List.length_reverse]; omega
end NP
namespace Go.Proofs.YtnbnldnfkikakaaGreatDoor
open NQ Go NP Go.RowKit
end Go.Proofs.YtnbnldnfkikakaaGreatDoor

set_option maxRecDepth 100000
namespace NP
open NQ Go
theorem copiesGo_iff {n : Nat} : ∀ (l seen : List af), cP n seen l = true ↔ ((∀ p ∈ l, ((decide (p.host < 0) || decide (p.host >= (n : Int)) || !aO p.zone) = false) /\ seen.any (cr p) = false) /\ l.Pairwise (fun x p => cr p x = false))
 | [], seen => by simp [cP]
 | x :: t, seen => by
  rw [cP, Bool.and_eq_true, copiesGo_iff t, List.pairwise_cons]
  simp only [List.any_append, List.any_cons, List.any_nil, Bool.or_false, Bool.not_eq_true', List.mem_cons, forall_eq_or_imp]
  constructor
  . rintro ⟨h1, h2, h3⟩
    simp only [Bool.or_eq_false_iff] at h1 h2 ⊢
    exact ⟨⟨⟨⟨h1.1.1, h1.2⟩, h1.1.2⟩, fun p hp => ⟨(h2 p hp).1, (h2 p hp).2.1⟩⟩, fun p hp => (h2 p hp).2.2, h3⟩
  . rintro ⟨⟨h1, h2⟩, h3, h4⟩
    simp only [Bool.or_eq_false_iff] at h1 h2 ⊢
    exact ⟨⟨⟨h1.1.1, h1.2⟩, h1.1.2⟩, fun p hp => ⟨(h2 p hp).1, (h2 p hp).2, h3 p hp⟩, h4⟩
theorem copiesGo_sub {n : Nat} {l l' : List af} (h : cP n [] l = true) (hs : l'.Sublist l) : cP n [] l' = true := by
 rw [copiesGo_iff] at h ⊢
 exact ⟨fun p hp => h.1 p (hs.subset hp), h.2.sublist hs⟩
theorem nodup_len {α : Type} [BEq α] [LawfulBEq α] : ∀ {a b : List α}, a.Nodup -> (∀ x ∈ a, x ∈ b) -> a.length <= b.length
 | [], b, _, _ => Nat.zero_le _
 | x :: t, b, hn, hs => by
  have hx := hs x (List.mem_cons_self ..)
  rw [List.nodup_cons] at hn
  have := nodup_len (b := b.erase x) hn.2 fun y hy => (List.mem_erase_of_ne (fun (e : y = x) => hn.1 (e ▸ hy))).2 (hs y (List.mem_cons_of_mem _ hy))
  rw [List.length_erase_of_mem hx] at this
  have h0 : 0 < b.length := List.length_pos_of_mem hx
  rw [List.length_cons]; omega
theorem apexes_spec (l : List af) : (eI l).Nodup /\ ∀ a, a ∈ eI l ↔ ∃ p ∈ l, p.zone.apex = a := by
 have key : ∀ (l : List af) (out : List Bs), out.Nodup -> (l.foldl (fun out p => if out.contains p.zone.apex = true then out else out ++ [p.zone.apex]) out).Nodup /\ ∀ a, a ∈ l.foldl (fun out p => if out.contains p.zone.apex = true then out else out ++ [p.zone.apex]) out ↔ (a ∈ out \/ ∃ p ∈ l, p.zone.apex = a) := fun l => by
  induction l with
  | nil => intro out h; exact ⟨h, fun a => by simp⟩
  | cons p t ih =>
   intro out h
   simp only [List.foldl_cons]
   by_cases hc : out.contains p.zone.apex = true
   . rw [if_pos hc]
     obtain ⟨h1, h2⟩ := ih out h
     refine ⟨h1, fun a => ?_⟩
     rw [h2]
     have hm : p.zone.apex ∈ out := List.contains_iff_mem.1 hc
     constructor
     . rintro (h | ⟨q, hq, e⟩)
       . exact .inl h
       . exact .inr ⟨q, List.mem_cons_of_mem _ hq, e⟩
     . rintro (h | ⟨q, hq, e⟩)
       . exact .inl h
       . rcases List.mem_cons.1 hq with rfl | hq
         . exact .inl (e ▸ hm)
         . exact .inr ⟨q, hq, e⟩
   . rw [if_neg hc]
     have hm : p.zone.apex ∉ out := fun e => hc (List.contains_iff_mem.2 e)
     obtain ⟨h1, h2⟩ := ih (out ++ [p.zone.apex]) (by
      rw [List.nodup_append]
      exact ⟨h, by simp, fun a ha b hb => by rw [List.mem_singleton] at hb; subst hb; exact fun e => hm (e ▸ ha)⟩)
     refine ⟨h1, fun a => ?_⟩
     rw [h2]
     constructor
     . rintro (h | ⟨q, hq, e⟩)
       . rcases List.mem_append.1 h with h | h
         . exact .inl h
         . rw [List.mem_singleton] at h; exact .inr ⟨p, List.mem_cons_self .., h.symm⟩
       . exact .inr ⟨q, List.mem_cons_of_mem _ hq, e⟩
     . rintro (h | ⟨q, hq, e⟩)
       . exact .inl (List.mem_append.2 (.inl h))
       . rcases List.mem_cons.1 hq with rfl | hq
         . exact .inl (List.mem_append.2 (.inr (by rw [List.mem_singleton]; exact e.symm)))
         . exact .inr ⟨q, hq, e⟩
 obtain ⟨h1, h2⟩ := key l [] List.nodup_nil
 exact ⟨h1, fun a => (h2 a).trans (by simp)⟩
theorem apexes_sub {l l' : List af} (h : ∀ p ∈ l', p ∈ l) : (eI l').length <= (eI l).length := by
 refine nodup_len (apexes_spec l').1 fun a ha => ?_
 obtain ⟨p, hp, e⟩ := ((apexes_spec l').2 a).1 ha
 exact ((apexes_spec l).2 a).2 ⟨p, h p hp, e⟩
theorem validW_sub {w : bg} {l : List af} (h : bt w = true) (hs : l.Sublist w.zones) : bt (I5 w l) = true := by
 unfold bt ix at h ⊢
 simp only [Bool.and_eq_true, decide_eq_true_eq] at h ⊢
 obtain ⟨⟨h1, ⟨h2, h3⟩, h4⟩, h5⟩ := h
 have hl := hs.length_le
 have ha := apexes_sub (l := w.zones) (l' := l) fun p hp => hs.subset hp
 rw [Gl] at h4
 exact ⟨⟨h1, ⟨by show (l.length : Int) <= 4000; omega, copiesGo_sub h3 hs⟩, by show ((apx l).length : Int) <= 500; rw [Gl]; omega⟩, h5⟩
theorem l7.sub {w : bg} (h : l7 w) {l : List af} (hs : l.Sublist w.zones) : l7 (I5 w l) :=
 ⟨h.hosts, Nat.le_trans hs.length_le h.zones, h.hints, fun p hp => h.few p (hs.subset hp)⟩
theorem best_filter {ok f : af -> Bool} {better : af -> af -> Bool} : ∀ (l : List af) (i j : Nat) (b b' : Option (Nat × af)), b.map (·.2) = b'.map (·.2) -> (∀ p ∈ l, ok p = true -> f p = true) ->
 (eS ok better i (l.filter f) b).map (·.2) = (eS ok better j l b').map (·.2)
 | [], i, j, b, b', h, _ => h
 | p :: t, i, j, b, b', h, hf => by
  have ht := fun q hq => hf q (List.mem_cons_of_mem _ hq)
  have hstep : (cj ok better i p b).map (·.2) = (cj ok better j p b').map (·.2) := by
   unfold cj
   by_cases hp : ok p = true
   . rw [if_pos hp, if_pos hp]
     cases b with
     | none =>
      cases b' with
      | none => rfl
      | some y => cases h
     | some x =>
      cases b' with
      | none => cases h
      | some y =>
       have e : x.2 = y.2 := Option.some.inj h
       dsimp only
       rw [e]
       split
       . rfl
       . exact congrArg some e
   . rw [if_neg hp, if_neg hp]; exact h
  by_cases hfp : f p = true
  . rw [List.filter_cons_of_pos hfp]
    exact best_filter t (i + 1) (j + 1) _ _ hstep ht
  . rw [List.filter_cons_of_neg hfp]
    have hp : ok p ≠ true := fun e => hfp (hf p (List.mem_cons_self ..) e)
    refine best_filter t i (j + 1) b _ ?_ ht
    rw [if_neg hp]; exact h
end NP
namespace Go.Proofs.YtnbnldnfkikakaaGreatDoor
open NQ Go NP Go.RowKit
end Go.Proofs.YtnbnldnfkikakaaGreatDoor

set_option maxRecDepth 100000
namespace NP
open NQ Go
theorem hostsGo_facts : ∀ (l : List ja) (seen : List Int), gJ seen l = true -> (∀ h ∈ l, seen.contains h.addr = false /\ h.owner < 32) /\ (l.map (·.addr)).Nodup
 | [], seen, _ => ⟨fun h hh => (by cases hh), List.nodup_nil⟩
 | x :: t, seen, h => by
  unfold gJ at h
  simp only [Bool.and_eq_true, Bool.not_eq_true', Bool.or_eq_false_iff, decide_eq_false_iff_not] at h
  obtain ⟨⟨h1, h2⟩, h3⟩ := h
  obtain ⟨g1, g2⟩ := hostsGo_facts t _ h3
  refine ⟨fun y hy => ?_, ?_⟩
  . rcases List.mem_cons.1 hy with rfl | hy
    . exact ⟨h2.2, by omega⟩
    . have := (g1 y hy).1
      refine ⟨?_, (g1 y hy).2⟩
      rw [Bool.eq_false_iff] at this ⊢
      intro e
      apply this
      rw [List.contains_iff_mem] at e ⊢
      exact List.mem_append.2 (.inl e)
  . rw [List.map_cons, List.nodup_cons]
    refine ⟨fun e => ?_, g2⟩
    obtain ⟨y, hy, ey⟩ := List.mem_map.1 e
    have := (g1 y hy).1
    rw [Bool.eq_false_iff] at this
    apply this
    rw [List.contains_iff_mem]
    exact List.mem_append.2 (.inr (by rw [List.mem_singleton]; exact ey))
end NP
namespace Go.Proofs.YtnbnldnfkikakaaGreatDoor
open NQ Go NP Go.RowKit
theorem rem16_val {t : TypeId} (a b : Int) (hb : b ≠ 0) : D8 cx .rem t (.d (.int .i64 a)) (.d (.int .i64 b)) = some (.d (.int .i64 (a.tmod b))) := by
 show (match kW .rem .i64 a b with | some r => some (AV.d r) | none => none) = _
 unfold kW
 rw [decide_eq_false hb]
theorem u8_16 {n : Int} (h : (Lit.int .u8 n).wf = true) : 0 <= n /\ n <= 255 := by
 simp [Lit.wf, IntKind.min, IntKind.max, IntKind.signed, IntKind.bits] at h
 omega
end Go.Proofs.YtnbnldnfkikakaaGreatDoor

set_option maxRecDepth 100000
namespace NP
open NQ Go
theorem hostK_at {l : List ja} (hn : (l.map (·.addr)).Nodup) {k : Nat} {h : ja} (hk : l[k]? = some h) : lL l h.addr = k := by
 have hlt := (List.getElem?_eq_some_iff.1 hk).1
 have hg := (List.getElem?_eq_some_iff.1 hk).2
 have : l.findIdx? (fun x => x.addr == h.addr) = some k := by
  rw [List.findIdx?_eq_some_iff_getElem]
  refine ⟨hlt, by rw [hg]; exact beq_self_eq_true _, fun j hj => ?_⟩
  intro e
  have e : (l[j]).addr = h.addr := by simpa using e
  have h1 : (l.map (·.addr))[j]'(by simp; omega) = (l.map (·.addr))[k]'(by simp; omega) := by
   rw [List.getElem_map, List.getElem_map, hg]; exact e
  exact List.pairwise_iff_getElem.1 hn j k (by simp; omega) (by simp; omega) hj h1
 unfold lL; rw [this]
theorem validW_addrs {w : bg} (h : bt w = true) : (w.hosts.map (·.addr)).Nodup := by
 unfold bt iU at h
 simp only [Bool.and_eq_true] at h
 exact (hostsGo_facts _ _ h.1.1.2).2
def ownOf (zs : List af) (k : Int) : List af := zs.filter fun p => p.host == k
theorem serve_own (zs : List af) {k : Int} (hk : 0 <= k) (q : ay) : qp (ownOf zs k) k q = qp zs k q := by
 have key : ∀ nt, (jc (ownOf zs k) k q.name nt).map (·.2) = (jc zs k q.name nt).map (·.2) := fun nt => by
  unfold jc ownOf
  refine best_filter zs 0 0 none none rfl fun p _ hp => ?_
  have := ((iy hk).1 hp).1
  simpa using this
 have hs : (mJ (ownOf zs k) k q).map (·.2) = (mJ zs k q).map (·.2) := by
  unfold mJ
  by_cases h6 : (q.type == 6) = true
  . rw [if_pos h6, if_pos h6]
    have h1 := key q.name
    have h2 := key []
    cases ha : jc (ownOf zs k) k q.name q.name with
    | none =>
     cases hb : jc zs k q.name q.name with
     | none => exact h2
     | some y => rw [ha, hb] at h1; cases h1
    | some x =>
     cases hb : jc zs k q.name q.name with
     | none => rw [ha, hb] at h1; cases h1
     | some y => rw [ha, hb] at h1; exact h1
  . rw [if_neg h6, if_neg h6]; exact key []
 unfold qp
 cases ha : mJ (ownOf zs k) k q with
 | none =>
  cases hb : mJ zs k q with
  | none => rfl
  | some y => rw [ha, hb] at hs; cases hs
 | some x =>
  cases hb : mJ zs k q with
  | none => rw [ha, hb] at hs; cases hs
  | some y =>
   rw [ha, hb] at hs
   have e : x.2 = y.2 := Option.some.inj hs
   dsimp only
   rw [e]
theorem deep_one {c : af} {k : Int} (hk : 0 <= k) {nm nt : Bs} : jc [c] k nm nt = if mf k nm nt c = true then some (0, c) else none := rfl
theorem serve_one {c : af} {k : Int} (hk : 0 <= k) (hc : c.host = k) (hv : ah c.zone.apex = true) (q : ay) : qp [c] k q = if ar q.name c.zone.apex = true then (bn c.zone q).1 else ⟨7, [], []⟩ := by
 have h0 : mf k q.name [] c = ar q.name c.zone.apex := by
  rw [Bool.eq_iff_iff, iy hk]
  exact ⟨fun h => h.2.2, fun h => ⟨hc, FT hv, h⟩⟩
 have hs : mJ [c] k q = if ar q.name c.zone.apex = true then some (0, c) else none := by
  unfold mJ
  rw [deep_one hk, deep_one hk, h0]
  by_cases h6 : (q.type == 6) = true
  . rw [if_pos h6]
    by_cases hd : mf k q.name q.name c = true
    . rw [if_pos hd, if_pos ((iy hk).1 hd).2.2]
    . rw [if_neg hd]
  . rw [if_neg h6]
 unfold qp
 rw [hs]
 by_cases hu : ar q.name c.zone.apex = true
 . rw [if_pos hu, if_pos hu]
 . rw [if_neg hu, if_neg hu]
theorem best_top {ok : af -> Bool} {better : af -> af -> Bool} {key : af -> Int} : ∀ (l : List af) (hb : ∀ p ∈ l, ∀ x, ok p = true -> ok x = true -> (better p x = true ↔ key x <= key p)) (i : Nat) (b : Option (Nat × af)) (x : Nat × af), (∀ y, b = some y -> ok y.2 = true) -> eS ok better i l b = some x ->
 ok x.2 = true /\ (b = some x \/ x.2 ∈ l) /\ (∀ y, b = some y -> key y.2 <= key x.2) /\ ∀ p ∈ l, ok p = true -> key p <= key x.2
 | [], _, i, b, x, hbo, h => by cases h; exact ⟨hbo x rfl, .inl rfl, fun y hy => (by cases hy; exact Int.le_refl _), fun p hp => by cases hp⟩
 | p :: t, hb, i, b, x, hbo, h => by
  have hbt := fun q hq => hb q (List.mem_cons_of_mem _ hq)
  by_cases hp : ok p = true
  . cases b with
    | none =>
     have h' : eS ok better (i + 1) t (some (i, p)) = some x := by
      have : cj ok better i p none = some (i, p) := by unfold cj; rw [if_pos hp]
      rw [<- this]; exact h
     obtain ⟨h0, h1, h2, h3⟩ := best_top t hbt (i + 1) (some (i, p)) x (fun y hy => by cases hy; exact hp) h'
     refine ⟨h0, .inr ?_, fun y hy => (by cases hy), fun q hq hoq => ?_⟩
     . rcases h1 with h1 | h1
       . cases h1; exact List.mem_cons_self ..
       . exact List.mem_cons_of_mem _ h1
     . rcases List.mem_cons.1 hq with rfl | hq
       . exact h2 (i, q) rfl
       . exact h3 q hq hoq
    | some y =>
     have hy := hbo y rfl
     have hiff := hb p (List.mem_cons_self ..) y.2 hp hy
     by_cases hbt2 : better p y.2 = true
     . have h' : eS ok better (i + 1) t (some (i, p)) = some x := by
        have : cj ok better i p (some y) = some (i, p) := by unfold cj; rw [if_pos hp]; dsimp only; rw [if_pos hbt2]
        rw [<- this]; exact h
       obtain ⟨h0, h1, h2, h3⟩ := best_top t hbt (i + 1) (some (i, p)) x (fun y hy => by cases hy; exact hp) h'
       have hpx := h2 (i, p) rfl
       have hyp := hiff.1 hbt2
       refine ⟨h0, .inr ?_, fun z hz => (by cases hz; dsimp only at hpx; omega), fun q hq hoq => ?_⟩
       . rcases h1 with h1 | h1
         . cases h1; exact List.mem_cons_self ..
         . exact List.mem_cons_of_mem _ h1
       . rcases List.mem_cons.1 hq with rfl | hq
         . exact hpx
         . exact h3 q hq hoq
     . have h' : eS ok better (i + 1) t (some y) = some x := by
        have : cj ok better i p (some y) = some y := by unfold cj; rw [if_pos hp]; dsimp only; rw [if_neg hbt2]
        rw [<- this]; exact h
       obtain ⟨h0, h1, h2, h3⟩ := best_top t hbt (i + 1) (some y) x hbo h'
       have hyx := h2 y rfl
       have hny : ¬ key y.2 <= key p := fun e => hbt2 (hiff.2 e)
       refine ⟨h0, h1.imp id (List.mem_cons_of_mem _), h2, fun q hq hoq => ?_⟩
       rcases List.mem_cons.1 hq with rfl | hq
       . omega
       . exact h3 q hq hoq
  . have h' : eS ok better (i + 1) t b = some x := by
     have : cj ok better i p b = b := by unfold cj; rw [if_neg hp]
     rw [<- this]; exact h
    obtain ⟨h0, h1, h2, h3⟩ := best_top t hbt (i + 1) b x hbo h'
    refine ⟨h0, h1.imp id (List.mem_cons_of_mem _), h2, fun q hq hoq => ?_⟩
    rcases List.mem_cons.1 hq with rfl | hq
    . exact absurd hoq hp
    . exact h3 q hq hoq
def okU (nm : Bs) (p : af) : Bool := ar nm p.zone.apex
def betU (p x : af) : Bool := ar p.zone.apex x.zone.apex
def bestU (nm : Bs) (l : List af) : Option (Nat × af) := eS (okU nm) betU 0 l none
theorem under_key {s a b : Bs} (ha : ar s a = true) (hb : ar s b = true) : ar a b = true ↔ ie b <= ie a := by
 refine ⟨fun h => ?_, fun h => under_between hb ha h⟩
 have := ((cw _ _).1 h).length_le
 rw [back_eq, back_eq, List.length_reverse, List.length_reverse] at this
 unfold ie; omega
theorem serve_best {w : bg} (hval : bt w = true) {k : Int} (hk : 0 <= k) {q : ay} (hq : bc q = true) :
 (bestU q.name (ownOf w.zones k) = none -> qp w.zones k q = ⟨7, [], []⟩) /\ (∀ x, bestU q.name (ownOf w.zones k) = some x -> (q.type == 6) = false -> qp w.zones k q = (bn x.2.zone q).1) := by
 have hz : ∀ p ∈ w.zones, ah p.zone.apex = true := fun p hp => (aW (mM hval p hp).1).apex
 have hpair := zD hval
 constructor
 . intro h
   unfold bestU at h
   rw [mQ] at h
   have no : ∀ nt, jc w.zones k q.name nt = none := fun nt => by
    unfold jc
    rw [mQ]
    refine ⟨rfl, fun p hp => ?_⟩
    cases hc : mf k q.name nt p with
    | false => rfl
    | true =>
     obtain ⟨h1, _, h3⟩ := (iy hk).1 hc
     have := h.2 p (List.mem_filter.2 ⟨hp, by simpa using h1⟩)
     unfold okU at this
     rw [h3] at this; cases this
   have : mJ w.zones k q = none := by
    unfold mJ; rw [no, no]; split <;> simp_all
   unfold qp; rw [this]
 . intro x hx h6
   obtain ⟨h0, h1, _, h3⟩ := best_top (key := lA) (ownOf w.zones k) (fun p _ y hp hy => under_key hp hy) 0 none x (fun y hy => by cases hy) hx
   rcases h1 with h1 | h1
   . cases h1
   obtain ⟨m1, m2⟩ := List.mem_filter.1 h1
   have m2 : x.2.host = k := by simpa using m2
   have hs : mJ w.zones k q = jc w.zones k q.name [] := by unfold mJ; rw [if_neg (by rw [h6]; simp)]
   have hokx : mf k q.name [] x.2 = true := (iy hk).2 ⟨m2, FT (hz _ m1), h0⟩
   cases hd : jc w.zones k q.name [] with
   | none =>
    unfold jc at hd
    rw [mQ] at hd
    have := hd.2 _ m1
    rw [hokx] at this; cases this
   | some y =>
    obtain ⟨d1, d2, d3⟩ := xl hd
    obtain ⟨e1, _, e3⟩ := (iy hk).1 d2
    have g1 := d3 _ m1 hokx
    have g2 := h3 y.2 (List.mem_filter.2 ⟨d1, by simpa using e1⟩) e3
    have : y.2 = x.2 := vA hpair d1 m1 (e1.trans m2.symm) (E6 e3 h0 (by show lA y.2 = lA x.2; omega))
    unfold qp
    rw [hs, hd]
    dsimp only
    rw [this]
end NP

set_option maxRecDepth 100000
namespace Go.Proofs.YtnbnldnfkikakaaGreatDoor
open NQ Go NP Go.RowKit
theorem same16_fn (a b : Ans) (h : sY a) (e : b = a) : NQ.Fn cx 18 [.agg (eh a), .agg (eh b)] (.d (.bool true)) [] := by
 subst e; exact IH _ h
def fzK : Nat -> List Nat
 | 6 => [55555]
 | 12 => [55555]
 | 13 => [100]
 | 14 => [55555]
 | 20 => [55555]
 | 30 => [55555]
 | _ => []
theorem asks_end (w : bg) (q : ay) (k : Nat) (hF : l7 w) (hval : bt w = true) (hq : bc q = true) (a : Ans) (ha : a = qp w.zones k q) (st : St)
 (hs : ai cx st ⟨[(3, .ptr 3 0), (5, .ptr 5 0), (7, .d (.bool true)), (9, .d (.slice 3 ((ownOf w.zones k).map aQ))), (12, .ptr 12 0), (16, .d (.int .i64 (Io (bestU q.name (ownOf w.zones k)))))], [(3, .box ((bz w).map .d)), (5, .box ((bE q).map .d)), (12, .box ((eh a).map .d))]⟩) :
 vc cx Tryz.f4.ntmps fzK (BR 11 ((Tryz.f4.body).getD .skip)) (fnQ cx Tryz.f4.results.toList (.d (.bool true)) []) st := by
 obtain ⟨h1, h2⟩ := serve_best hval (k := (k : Int)) (by omega) hq
 have sA : sY a := ha ▸ II hF.few (by omega) q
 have hg := mM hval
 cases hb : bestU q.name (ownOf w.zones k) with
 | none =>
  have e := h1 hb
  rw [e] at ha
  subst ha
  rw [hb] at hs
  conv => whnf
  refine ⟨_, hs, ?_⟩
  conv => whnf
  repeat' (first | (refine ab (fun h => ?_) (fun h => ?_) <;> (rw [h]; conv => whnf)) | fail)
  all_goals exact ae rfl rfl
 | some x =>
  have hx2 : (ownOf w.zones k)[x.1]? = some x.2 := ur (ownOf w.zones k) 0 none (fun j => by rw [Nat.zero_add]) (fun x hx => by cases hx) x hb
  obtain ⟨m1, _⟩ := List.mem_filter.1 (List.mem_of_getElem? hx2)
  have hu := (best_top (key := lA) (ownOf w.zones k) (fun p _ y hp hy => under_key hp hy) 0 none x (fun y hy => by cases hy) hb).1
  have u : Use x.2.zone q := ⟨hF.few _ m1, (hg _ m1).1, hq, hu⟩
  have fA := Cf x.2.zone q (hF.few _ m1)
  rw [DZ u] at fA
  rw [hb] at hs
  cases h6 : (q.type == 6) with
  | true =>
   conv => whnf
   refine ⟨_, hs, ?_⟩
   conv => whnf
   rw [h6]
   conv => whnf
   repeat' (first | (refine ab (fun h => ?_) (fun h => ?_) <;> (rw [h]; conv => whnf)) | fail)
   all_goals exact ae rfl rfl
  | false =>
   have e := h2 x hb h6
   have fS := same16_fn a (bn x.2.zone q).1 sA (by rw [ha, e])
   conv => whnf
   refine ⟨_, hs, ?_⟩
   conv => whnf
   rw [h6]
   conv => whnf
   repeat' (first
    | (refine ⟨(by kernel_rfl : aH _ _ = true), ?_⟩; conv => whnf)
    | (refine ⟨Int.natCast_nonneg x.1, aQ x.2, ax hx2, ?_⟩; conv => whnf)
    | (refine ⟨_, _, fA, ?_⟩; conv => whnf)
    | (refine ⟨_, _, fS, ?_⟩; conv => whnf)
    | exact ae rfl rfl
    | (refine ab (fun h => ?_) (fun h => ?_) <;> (rw [h]; conv => whnf))
    | fail)
end Go.Proofs.YtnbnldnfkikakaaGreatDoor

set_option maxRecDepth 100000
namespace NP
open NQ Go
theorem own_snoc (l : List af) (p : af) (k : Int) : ownOf (l ++ [p]) k = ownOf l k ++ (if (p.host == k) = true then [p] else []) := by
 unfold ownOf
 rw [List.filter_append]
 by_cases h : (p.host == k) = true
 . rw [if_pos h, List.filter_cons_of_pos (p := fun p : af => p.host == k) h]; rfl
 . rw [if_neg h, List.filter_cons_of_neg (p := fun p : af => p.host == k) h]; rfl
end NP
namespace Go.Proofs.YtnbnldnfkikakaaGreatDoor
open NQ Go NP Go.RowKit
set_option maxHeartbeats 2000000 in
theorem asks_rest (w : bg) (q : ay) (k : Nat) (h : ja) (hh : w.hosts[k]? = some h) (hF : l7 w) (hval : bt w = true) (hq : bc q = true) (st : St)
 (hs : ai cx st ⟨[(3, .ptr 3 0), (5, .ptr 5 0), (7, .d (.bool true)), (8, .d (.int .i64 k)), (9, .own 100)], [(3, .box ((bz w).map .d)), (5, .box ((bE q).map .d)), (100, .row 49 3 ((ownOf w.zones k).map aQ))]⟩) :
 vc cx Tryz.f4.ntmps fzK (BR 6 ((Tryz.f4.body).getD .skip)) (fnQ cx Tryz.f4.results.toList (.d (.bool true)) []) st := by
 have hsub : (ownOf w.zones k).Sublist w.zones := List.filter_sublist ..
 have hg := mM hval
 have hhost : lL w.hosts h.addr = k := hostK_at (validW_addrs hval) hh
 have e1 : jM w h.addr q = (qp w.zones k q, 0) := by rw [wS hval hq hF, hhost, if_neg (by omega)]
 have e2 : ∀ l : List af, l.Sublist w.zones -> jM (I5 w l) h.addr q = (qp l k q, 0) := fun l hl => by
  rw [wS (validW_sub hval hl) hq (hF.sub hl)]
  show (if lL w.hosts h.addr < 0 then _ else (qp l (lL w.hosts h.addr) q, 0)) = _
  rw [hhost, if_neg (by omega)]
 have f1 := wT w h.addr q hF; rw [e1] at f1
 have f2 := wT (I5 w (ownOf w.zones k)) h.addr q (hF.sub hsub); rw [e2 _ hsub, serve_own w.zones (by omega) q] at f2
 have f3 := I9 w (ownOf w.zones k)
 have sA := II hF.few (K := (k : Int)) (by omega) q
 have f4 := IH _ sA
 have htail := asks_end w q k hF hval hq _ rfl
 generalize hA : qp w.zones k q = A at *
 conv => whnf
 refine ⟨_, hs, ?_⟩
 conv => whnf
 (refine ⟨(by kernel_rfl : aH _ _ = true), ?_⟩; conv => whnf)
 refine ⟨Int.natCast_nonneg k, du h, ax hh, ?_⟩
 conv => whnf
 (refine ⟨_, _, f1, ?_⟩; conv => whnf)
 (refine ⟨(by kernel_rfl : aH _ _ = true), ?_⟩; conv => whnf)
 (refine ⟨_, _, f3, ?_⟩; conv => whnf)
 refine ⟨Int.natCast_nonneg k, du h, ax hh, ?_⟩
 conv => whnf
 (refine ⟨_, _, f2, ?_⟩; conv => whnf)
 refine ⟨⟨[(3, .ptr 3 0), (5, .ptr 5 0), (7, .d (.bool true)), (8, .d (.int .i64 k)), (9, .d (.slice 3 ((ownOf w.zones k).map aQ))), (12, .ptr 12 0), (13, .d (.int .i64 0)), (14, .ptr 14 0), (15, .d (.int .i64 0))], [(3, .box ((bz w).map .d)), (5, .box ((bE q).map .d)), (12, .box ((eh A).map .d)), (14, .box ((eh A).map .d))]⟩, ai.keep ⟨⟨rfl, rfl⟩, ⟨rfl, rfl⟩, ⟨rfl, rfl⟩, ⟨rfl, rfl⟩, ⟨rfl, rfl⟩, ⟨rfl, rfl⟩, ⟨rfl, rfl⟩, ⟨rfl, rfl⟩, ⟨rfl, rfl⟩, trivial⟩ ⟨⟨rfl, rfl⟩, ⟨rfl, rfl⟩, ⟨rfl, rfl⟩, ⟨rfl, rfl⟩, trivial⟩, ?_⟩
 conv => whnf
 (refine ⟨_, _, f4, ?_⟩; conv => whnf)
 generalize hO : ownOf w.zones k = O at *
 have hOl : O.length <= 1000 := Nat.le_trans hsub.length_le hF.zones
 have hOm : ∀ p ∈ O, p ∈ w.zones /\ p.host = k := fun p hp => by
  rw [<- hO] at hp
  obtain ⟨a, b⟩ := List.mem_filter.1 hp
  exact ⟨a, by simpa using b⟩
 refine ⟨Nat × Option (Nat × af), fun x => ⟨[(3, .ptr 3 0), (5, .ptr 5 0), (7, .d (.bool true)), (8, .d (.int .i64 k)), (9, .d (.slice 3 (O.map aQ))), (12, .ptr 12 0), (16, .d (.int .i64 (Io x.2))), (98, .d (.slice 3 (O.map aQ))), (99, .d (.int .i64 ((O.map aQ).length : Int))), (100, .d (.int .i64 x.1))], [(3, .box ((bz w).map .d)), (5, .box ((bE q).map .d)), (12, .box ((eh A).map .d))]⟩,
  fun x => x.1 <= O.length /\ iR O x.2 /\ eS (okU q.name) betU x.1 (O.drop x.1) x.2 = bestU q.name O, fun x => O.length - x.1,
  ⟨(0, none), ⟨Nat.zero_le _, (fun x hx => by cases hx), rfl⟩, ai.keep ⟨⟨rfl, rfl⟩, ⟨rfl, rfl⟩, ⟨rfl, rfl⟩, ⟨rfl, rfl⟩, ⟨rfl, rfl⟩, ⟨rfl, rfl⟩, ⟨rfl, rfl⟩, ⟨rfl, rfl⟩, ⟨rfl, rfl⟩, ⟨rfl, rfl⟩, trivial⟩ ⟨⟨rfl, rfl⟩, ⟨rfl, rfl⟩, ⟨rfl, rfl⟩, trivial⟩⟩, fun ⟨i, b⟩ ⟨hi, hb, hinv⟩ => ?_⟩
 dsimp only at hi hb hinv ⊢
 conv => whnf
 refine ab (fun g1 => ?_) (fun g1 => ?_) <;> (rw [g1]; conv => whnf)
 . have hlt : i < O.length := by simpa using g1
   obtain ⟨c, hc⟩ : ∃ c, O[i]? = some c := ⟨_, List.getElem?_eq_getElem hlt⟩
   obtain ⟨hcm, hch⟩ := hOm c (List.mem_of_getElem? hc)
   have hcv := (aW (hg _ hcm).1).apex
   rw [Cl hc] at hinv
   have next : ∀ b', b' = cj (okU q.name) betU i c b -> (i + 1 <= O.length /\ iR O b' /\ eS (okU q.name) betU (i + 1) (O.drop (i + 1)) b' = bestU q.name O) := fun b' e => by
    rw [e]; exact ⟨hlt, hb.step hc, hinv⟩
   have hone : [c].Sublist w.zones := List.singleton_sublist.2 hcm
   have f5 := I9 w [c]
   have f6 := wT (I5 w [c]) h.addr q (hF.sub hone); rw [e2 _ hone, serve_one (by omega) hch hcv q] at f6
   have f7 := j7 q.name c.zone.apex
   have e7 : aD q.name c.zone.apex = (ar q.name c.zone.apex, 0) := by unfold aD; rw [if_pos ⟨BB hq, hcv⟩]
   rw [e7] at f7
   refine ⟨Int.natCast_nonneg i, aQ c, ax hc, ?_⟩
   conv => whnf
   refine ⟨⟨[(3, .ptr 3 0), (5, .ptr 5 0), (7, .d (.bool true)), (8, .d (.int .i64 k)), (9, .d (.slice 3 (O.map aQ))), (12, .ptr 12 0), (16, .d (.int .i64 (Io b))), (17, .d (.int .i64 i)), (18, .ptr 18 0), (98, .d (.slice 3 (O.map aQ))), (99, .d (.int .i64 ((O.map aQ).length : Int))), (100, .d (.int .i64 i))], [(3, .box ((bz w).map .d)), (5, .box ((bE q).map .d)), (12, .box ((eh A).map .d)), (18, .box ((aQ c).map .d))]⟩, ai.keep ⟨⟨rfl, rfl⟩, ⟨rfl, rfl⟩, ⟨rfl, rfl⟩, ⟨rfl, rfl⟩, ⟨rfl, rfl⟩, ⟨rfl, rfl⟩, ⟨rfl, rfl⟩, ⟨rfl, rfl⟩, ⟨rfl, rfl⟩, ⟨rfl, rfl⟩, ⟨rfl, rfl⟩, ⟨rfl, rfl⟩, trivial⟩ ⟨⟨rfl, rfl⟩, ⟨rfl, rfl⟩, ⟨rfl, rfl⟩, ⟨rfl, rfl⟩, trivial⟩, ?_⟩
   conv => whnf
   (refine ⟨(by kernel_rfl : aH _ _ = true), ?_⟩; conv => whnf)
   have ew : IntKind.i64.wrap ((i : Int) + 1) = ((i + 1 : Nat) : Int) := by rw [wrap_i64 (by omega) (by omega)]; omega
   rw [ew]
   refine ⟨Int.natCast_nonneg i, by omega, by (show ((i + 1 : Nat) : Int) <= (((O.map aQ).length : Nat) : Int); rw [List.length_map]; omega), ?_⟩
   conv => whnf
   have e5 : ((O.map aQ).drop (i : Int).toNat).take (((i + 1 : Nat) : Int).toNat - (i : Int).toNat) = [c].map aQ := by
    rw [show (((i + 1 : Nat) : Int).toNat - (i : Int).toNat) = 1 by omega, show (i : Int).toNat = i by omega, <- List.map_drop, drop_cons hc]
    rfl
   rw [<- e5] at f5
   (refine ⟨_, _, f5, ?_⟩; conv => whnf)
   refine ⟨Int.natCast_nonneg k, du h, ax hh, ?_⟩
   conv => whnf
   (refine ⟨_, _, f6, ?_⟩; conv => whnf)
   (refine ⟨_, _, f7, ?_⟩; conv => whnf)
   have fin : ∀ (b' : Option (Nat × af)), b' = cj (okU q.name) betU i c b -> (i + 1 <= O.length /\ iR O b' /\ eS (okU q.name) betU (i + 1) (O.drop (i + 1)) b' = bestU q.name O) := next
   cases hu : ar q.name c.zone.apex with
   | false =>
    have fS0 := IH (⟨7, [], []⟩ : Ans) ⟨by decide, fun s hs => by cases hs⟩
    conv => whnf
    refine ⟨_, _, fS0, ?_⟩
    conv => whnf
    (refine ⟨(by kernel_rfl : aH _ _ = true), ?_⟩; conv => whnf)
    exact ⟨(i + 1, b), fin _ (by unfold cj okU; rw [hu]; rfl), by (show O.length - (i + 1) < O.length - i; omega), ai.keep ⟨⟨rfl, rfl⟩, ⟨rfl, rfl⟩, ⟨rfl, rfl⟩, ⟨rfl, rfl⟩, ⟨rfl, rfl⟩, ⟨rfl, rfl⟩, ⟨rfl, rfl⟩, ⟨rfl, rfl⟩, ⟨rfl, rfl⟩, ⟨ak (by omega), rfl⟩, trivial⟩ ⟨⟨rfl, rfl⟩, ⟨rfl, rfl⟩, ⟨rfl, rfl⟩, trivial⟩⟩
   | true =>
    have u : Use c.zone q := ⟨hF.few _ hcm, (hg _ hcm).1, hq, hu⟩
    have fA := Cf c.zone q (hF.few _ hcm)
    rw [DZ u] at fA
    have fS1 := IH (bn c.zone q).1 ⟨by have := um (hF.few _ hcm) q; omega, Ce (hF.few _ hcm) q⟩
    conv => whnf
    (refine ⟨_, _, fA, ?_⟩; conv => whnf)
    refine ⟨_, _, fS1, ?_⟩
    conv => whnf
    (refine ⟨(by kernel_rfl : aH _ _ = true), ?_⟩; conv => whnf)
    have hok : okU q.name c = true := hu
    cases b with
    | none =>
     conv => whnf
     exact ⟨(i + 1, some (i, c)), fin _ (by unfold cj; rw [if_pos hok]), by (show O.length - (i + 1) < O.length - i; omega), ai.keep ⟨⟨rfl, rfl⟩, ⟨rfl, rfl⟩, ⟨rfl, rfl⟩, ⟨rfl, rfl⟩, ⟨rfl, rfl⟩, ⟨rfl, rfl⟩, ⟨rfl, rfl⟩, ⟨rfl, rfl⟩, ⟨rfl, rfl⟩, ⟨ak (by omega), rfl⟩, trivial⟩ ⟨⟨rfl, rfl⟩, ⟨rfl, rfl⟩, ⟨rfl, rfl⟩, trivial⟩⟩
    | some x =>
     have hx := hb x rfl
     have hxv := (aW (hg _ (hOm _ (List.mem_of_getElem? hx)).1).1).apex
     conv => whnf
     refine ⟨Int.natCast_nonneg x.1, aQ x.2, ax hx, ?_⟩
     conv => whnf
     (refine ⟨_, _, sW c.zone.apex x.2.zone.apex (cu hcv) (cu hxv), ?_⟩; conv => whnf)
     cases hbt : ar c.zone.apex x.2.zone.apex with
     | true =>
      conv => whnf
      exact ⟨(i + 1, some (i, c)), fin _ (by unfold cj; rw [if_pos hok]; dsimp only; unfold betU; rw [if_pos hbt]), by (show O.length - (i + 1) < O.length - i; omega), ai.keep ⟨⟨rfl, rfl⟩, ⟨rfl, rfl⟩, ⟨rfl, rfl⟩, ⟨rfl, rfl⟩, ⟨rfl, rfl⟩, ⟨rfl, rfl⟩, ⟨rfl, rfl⟩, ⟨rfl, rfl⟩, ⟨rfl, rfl⟩, ⟨ak (by omega), rfl⟩, trivial⟩ ⟨⟨rfl, rfl⟩, ⟨rfl, rfl⟩, ⟨rfl, rfl⟩, trivial⟩⟩
     | false =>
      conv => whnf
      exact ⟨(i + 1, some x), fin _ (by unfold cj; rw [if_pos hok]; dsimp only; unfold betU; rw [if_neg (by rw [hbt]; simp)]), by (show O.length - (i + 1) < O.length - i; omega), ai.keep ⟨⟨rfl, rfl⟩, ⟨rfl, rfl⟩, ⟨rfl, rfl⟩, ⟨rfl, rfl⟩, ⟨rfl, rfl⟩, ⟨rfl, rfl⟩, ⟨rfl, rfl⟩, ⟨rfl, rfl⟩, ⟨rfl, rfl⟩, ⟨ak (by omega), rfl⟩, trivial⟩ ⟨⟨rfl, rfl⟩, ⟨rfl, rfl⟩, ⟨rfl, rfl⟩, trivial⟩⟩
 . obtain rfl : i = O.length := by simp at g1; omega
   rw [List.drop_length] at hinv
   obtain rfl : b = bestU q.name O := hinv
   exact htail _ (ai.keep ⟨⟨rfl, rfl⟩, ⟨rfl, rfl⟩, ⟨rfl, rfl⟩, ⟨rfl, rfl⟩, ⟨rfl, rfl⟩, ⟨rfl, rfl⟩, trivial⟩ ⟨⟨rfl, rfl⟩, ⟨rfl, rfl⟩, ⟨rfl, rfl⟩, trivial⟩)
set_option maxHeartbeats 1000000 in
theorem worldAsks_fn (w : bg) (which : Int) (hw : (Lit.int .u8 which).wf = true) (q : ay) : NQ.Fn cx 4 [.agg (bz w), .int .u8 which, .agg (bE q)] (.d (.bool true)) [] := by
 obtain ⟨wh, rfl⟩ : ∃ n : Nat, which = n := ⟨which.toNat, by have := (u8_16 hw).1; omega⟩
 have hw2 : wh <= 255 := by have := (u8_16 hw).2; omega
 have fU := IK w q
 cases hu : (ko w && bt w && bc q) with
 | false =>
  rw [hu] at fU
  refine de fzK az mixed Tryz.func4 (by kernel_rfl) rfl (Nat.le_of_ble_eq_true rfl) ?_
  conv => whnf
  (refine ⟨_, _, I8, ?_⟩; conv => whnf)
  (refine ⟨_, _, fU, ?_⟩; conv => whnf)
  exact ae rfl rfl
 | true =>
 rw [hu] at fU
 simp only [Bool.and_eq_true] at hu
 obtain ⟨⟨hfew, hval⟩, hq⟩ := hu
 have hF := (EJ hfew).1
 have hlen := hF.zones
 refine de fzK az mixed Tryz.func4 (by kernel_rfl) rfl (Nat.le_of_ble_eq_true rfl) ?_
 conv => whnf
 (refine ⟨_, _, I8, ?_⟩; conv => whnf)
 (refine ⟨_, _, fU, ?_⟩; conv => whnf)
 refine ab (fun g2 => ?_) (fun g2 => ?_) <;> (rw [g2]; conv => whnf)
 . exact ae rfl rfl
 have hy : 0 < w.hosts.length := by
  rcases Nat.eq_zero_or_pos w.hosts.length with e | e
  . exfalso
    have : (((w.hosts.map du).length : Int) == 0) = true := by rw [List.length_map, e]; rfl
    exact absurd (this.symm.trans g2) (by simp)
  . exact e
 obtain ⟨K, hK⟩ : ∃ K, K = wh % w.hosts.length := ⟨_, rfl⟩
 have hKl : K < w.hosts.length := by rw [hK]; exact Nat.mod_lt _ hy
 obtain ⟨h, hh⟩ : ∃ h, w.hosts[K]? = some h := ⟨_, List.getElem?_eq_getElem hKl⟩
 have ew : IntKind.i64.wrap (wh : Int) = (wh : Int) := wrap_i64 (by omega) (by omega)
 have er := rem16_val (t := 3) (IntKind.i64.wrap (wh : Int)) (((w.hosts.map du).length : Nat) : Int) (by rw [List.length_map]; omega)
 have ek : (IntKind.i64.wrap (wh : Int)).tmod (((w.hosts.map du).length : Nat) : Int) = (K : Int) := by
  rw [ew, List.length_map, Int.tmod_eq_emod_of_nonneg (by omega), hK]; rfl
 rw [ek] at er
 split
 case h_2 hb => exact absurd (hb.symm.trans er) (by simp)
 case h_1 hb =>
 cases hb.symm.trans er
 conv => whnf
 refine ⟨⟨[(3, .ptr 3 0), (5, .ptr 5 0), (7, .d (.bool true)), (8, .d (.int .i64 K)), (9, .nil 3)], [(3, .box ((bz w).map .d)), (5, .box ((bE q).map .d))]⟩, ai.keep ⟨⟨rfl, rfl⟩, ⟨rfl, rfl⟩, ⟨rfl, rfl⟩, ⟨rfl, rfl⟩, ⟨rfl, rfl⟩, trivial⟩ ⟨⟨rfl, rfl⟩, ⟨rfl, rfl⟩, trivial⟩, ?_⟩
 conv => whnf
 refine ⟨Nat, fun k => ⟨[(3, .ptr 3 0), (5, .ptr 5 0), (7, .d (.bool true)), (8, .d (.int .i64 K)), (9, .own 100), (45, .d (.slice 3 (w.zones.map aQ))), (46, .d (.int .i64 ((w.zones.map aQ).length : Int))), (47, .d (.int .i64 k))], [(3, .box ((bz w).map .d)), (5, .box ((bE q).map .d)), (100, .row 49 3 ((ownOf (w.zones.take k) K).map aQ))]⟩,
  fun k => k <= w.zones.length, fun k => w.zones.length - k,
  ⟨0, Nat.zero_le _, (ai.qV 9 100 3 49 3 rfl rfl (by decide)).trans (ai.keep ⟨⟨rfl, rfl⟩, ⟨rfl, rfl⟩, ⟨rfl, rfl⟩, ⟨rfl, rfl⟩, ⟨rfl, rfl⟩, ⟨rfl, rfl⟩, ⟨rfl, rfl⟩, ⟨rfl, rfl⟩, trivial⟩ ⟨⟨rfl, rfl⟩, ⟨rfl, rfl⟩, ⟨rfl, rfl⟩, trivial⟩)⟩, fun k hk => ?_⟩
 conv => whnf
 refine ab (fun g1 => ?_) (fun g1 => ?_) <;> (rw [g1]; conv => whnf)
 . have hlt : k < w.zones.length := by simpa using g1
   obtain ⟨p, hp⟩ : ∃ p, w.zones[k]? = some p := ⟨_, List.getElem?_eq_getElem hlt⟩
   refine ⟨Int.natCast_nonneg k, aQ p, ax hp, ?_⟩
   conv => whnf
   have hsz : (ownOf (w.zones.take k) K).length <= k := Nat.le_trans (List.length_filter_le _ _) (by rw [List.length_take]; omega)
   have hsn := own_snoc (w.zones.take k) p K
   rw [<- bF hp] at hsn
   refine ab (fun g2 => ?_) (fun g2 => ?_) <;> (rw [g2]; conv => whnf)
   . have hpk : (p.host == (K : Int)) = true := by simpa using g2
     rw [if_pos hpk] at hsn
     refine ⟨by (show ((ownOf (w.zones.take k) K).map aQ).length + 1 <= _); rw [List.length_map]; omega, by (show (((ownOf (w.zones.take k) K).map aQ).length + 1) * 48 <= _); rw [List.length_map]; omega, ?_⟩
     conv => whnf
     refine ⟨k + 1, hlt, by (show w.zones.length - (k + 1) < w.zones.length - k; omega), ai.keep ⟨⟨rfl, rfl⟩, ⟨rfl, rfl⟩, ⟨rfl, rfl⟩, ⟨rfl, rfl⟩, ⟨rfl, rfl⟩, ⟨rfl, rfl⟩, ⟨rfl, rfl⟩, ⟨ak (by omega), rfl⟩, trivial⟩ ⟨⟨rfl, rfl⟩, ⟨rfl, rfl⟩, ⟨?_, rfl⟩, trivial⟩⟩
     rw [hsn, List.map_append]; rfl
   . have hpk : ¬ (p.host == (K : Int)) = true := by simpa using g2
     rw [if_neg hpk, List.append_nil] at hsn
     refine ⟨k + 1, hlt, by (show w.zones.length - (k + 1) < w.zones.length - k; omega), ai.keep ⟨⟨rfl, rfl⟩, ⟨rfl, rfl⟩, ⟨rfl, rfl⟩, ⟨rfl, rfl⟩, ⟨rfl, rfl⟩, ⟨rfl, rfl⟩, ⟨rfl, rfl⟩, ⟨ak (by omega), rfl⟩, trivial⟩ ⟨⟨rfl, rfl⟩, ⟨rfl, rfl⟩, ⟨?_, rfl⟩, trivial⟩⟩
     rw [hsn]; rfl
 . obtain rfl : k = w.zones.length := by simp at g1; omega
   refine asks_rest w q K h hh hF hval hq _ (ai.keep ⟨⟨rfl, rfl⟩, ⟨rfl, rfl⟩, ⟨rfl, rfl⟩, ⟨rfl, rfl⟩, ⟨rfl, rfl⟩, trivial⟩ ⟨⟨rfl, rfl⟩, ⟨rfl, rfl⟩, ⟨?_, rfl⟩, trivial⟩)
   show some (Blk.row _ _ ((ownOf (w.zones.take w.zones.length) K).map aQ) _) = _
   rw [List.take_length]
end Go.Proofs.YtnbnldnfkikakaaGreatDoor
