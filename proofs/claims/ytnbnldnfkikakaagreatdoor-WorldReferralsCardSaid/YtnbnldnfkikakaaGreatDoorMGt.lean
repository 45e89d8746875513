/-
  Texts of the proof, merged in build order.
-/
import Derived.Test.YtnbnldnfkikakaaGreatDoorMGja
set_option linter.all false
set_option maxRecDepth 100000
namespace NP
open NQ Go
theorem truthR_go {w : bt} {q : ax} (hv : bC w = true) (hq : aP q = true) : iG w q = jc w.zones 9 q [] := by unfold iG; rw [if_neg (by rw [hv, hq]; simp)]
end NP
namespace Go.Proofs.YtnbnldnfkikakaaGreatDoor
open NQ Go NP Go.RowKit
end Go.Proofs.YtnbnldnfkikakaaGreatDoor

set_option maxRecDepth 100000
namespace NP
open NQ Go
theorem copiesGo_iff {n : Nat} : ∀ (l seen : List ai), de n seen l = true ↔ ((∀ p ∈ l, ((decide (p.host < 0) || decide (p.host >= (n : Int)) || !aQ p.zone) = false) /\ seen.any (cF p) = false) /\ l.Pairwise (fun x p => cF p x = false))
 | [], seen => by simp [de]
 | x :: t, seen => by
  rw [de, Bool.and_eq_true, copiesGo_iff t, List.pairwise_cons]
  simp only [List.any_append, List.any_cons, List.any_nil, Bool.or_false, Bool.not_eq_true', List.mem_cons, forall_eq_or_imp]
  constructor
  . rintro ⟨h1, h2, h3⟩
    simp only [Bool.or_eq_false_iff] at h1 h2 ⊢
    exact ⟨⟨⟨⟨h1.1.1, h1.2⟩, h1.1.2⟩, fun p hp => ⟨(h2 p hp).1, (h2 p hp).2.1⟩⟩, fun p hp => (h2 p hp).2.2, h3⟩
  . rintro ⟨⟨h1, h2⟩, h3, h4⟩
    simp only [Bool.or_eq_false_iff] at h1 h2 ⊢
    exact ⟨⟨⟨h1.1.1, h1.2⟩, h1.1.2⟩, fun p hp => ⟨(h2 p hp).1, (h2 p hp).2, h3 p hp⟩, h4⟩
theorem copiesGo_sub {n : Nat} {l l' : List ai} (h : de n [] l = true) (hs : l'.Sublist l) : de n [] l' = true := by
 rw [copiesGo_iff] at h ⊢
 exact ⟨fun p hp => h.1 p (hs.subset hp), h.2.sublist hs⟩
theorem nodup_len {α : Type} [BEq α] [LawfulBEq α] : ∀ {a b : List α}, a.Nodup -> (∀ x ∈ a, x ∈ b) -> a.length <= b.length
 | [], b, _, _ => Nat.zero_le _
 | x :: t, b, hn, hs => by
  have hx := hs x (List.mem_cons_self ..)
  rw [List.nodup_cons] at hn
  have := nodup_len (b := b.erase x) hn.2 fun y hy => (List.mem_erase_of_ne (fun (e : y = x) => hn.1 (e ▸ hy))).2 (hs y (List.mem_cons_of_mem _ hy))
  rw [List.length_erase_of_mem hx] at this
  have h0 : 0 < b.length := List.length_pos_of_mem hx
  rw [List.length_cons]; omega
theorem apexes_spec (l : List ai) : (eU l).Nodup /\ ∀ a, a ∈ eU l ↔ ∃ p ∈ l, p.zone.apex = a := by
 have key : ∀ (l : List ai) (out : List Bs), out.Nodup -> (l.foldl (fun out p => if out.contains p.zone.apex = true then out else out ++ [p.zone.apex]) out).Nodup /\ ∀ a, a ∈ l.foldl (fun out p => if out.contains p.zone.apex = true then out else out ++ [p.zone.apex]) out ↔ (a ∈ out \/ ∃ p ∈ l, p.zone.apex = a) := fun l => by
  induction l with
  | nil => intro out h; exact ⟨h, fun a => by simp⟩
  | cons p t ih =>
   intro out h
   simp only [List.foldl_cons]
   by_cases hc : out.contains p.zone.apex = true
   . rw [if_pos hc]
     obtain ⟨h1, h2⟩ := ih out h
     refine ⟨h1, fun a => ?_⟩
     rw [h2]
     have hm : p.zone.apex ∈ out := List.contains_iff_mem.1 hc
     constructor
     . rintro (h | ⟨q, hq, e⟩)
       . exact .inl h
       . exact .inr ⟨q, List.mem_cons_of_mem _ hq, e⟩
     . rintro (h | ⟨q, hq, e⟩)
       . exact .inl h
       . rcases List.mem_cons.1 hq with rfl | hq
         . exact .inl (e ▸ hm)
         . exact .inr ⟨q, hq, e⟩
   . rw [if_neg hc]
     have hm : p.zone.apex ∉ out := fun e => hc (List.contains_iff_mem.2 e)
     obtain ⟨h1, h2⟩ := ih (out ++ [p.zone.apex]) (by
      rw [List.nodup_append]
      exact ⟨h, by simp, fun a ha b hb => by rw [List.mem_singleton] at hb; subst hb; exact fun e => hm (e ▸ ha)⟩)
     refine ⟨h1, fun a => ?_⟩
     rw [h2]
     constructor
     . rintro (h | ⟨q, hq, e⟩)
       . rcases List.mem_append.1 h with h | h
         . exact .inl h
         . rw [List.mem_singleton] at h; exact .inr ⟨p, List.mem_cons_self .., h.symm⟩
       . exact .inr ⟨q, List.mem_cons_of_mem _ hq, e⟩
     . rintro (h | ⟨q, hq, e⟩)
       . exact .inl (List.mem_append.2 (.inl h))
       . rcases List.mem_cons.1 hq with rfl | hq
         . exact .inl (List.mem_append.2 (.inr (by rw [List.mem_singleton]; exact e.symm)))
         . exact .inr ⟨q, hq, e⟩
 obtain ⟨h1, h2⟩ := key l [] List.nodup_nil
 exact ⟨h1, fun a => (h2 a).trans (by simp)⟩
theorem apexes_sub {l l' : List ai} (h : ∀ p ∈ l', p ∈ l) : (eU l').length <= (eU l).length := by
 refine nodup_len (apexes_spec l').1 fun a ha => ?_
 obtain ⟨p, hp, e⟩ := ((apexes_spec l').2 a).1 ha
 exact ((apexes_spec l).2 a).2 ⟨p, h p hp, e⟩
theorem validW_sub {w : bt} {l : List ai} (h : bC w = true) (hs : l.Sublist w.zones) : bC (JB w l) = true := by
 unfold bC iN at h ⊢
 simp only [Bool.and_eq_true, decide_eq_true_eq] at h ⊢
 obtain ⟨⟨h1, ⟨h2, h3⟩, h4⟩, h5⟩ := h
 have hl := hs.length_le
 have ha := apexes_sub (l := w.zones) (l' := l) fun p hp => hs.subset hp
 rw [GZ] at h4
 exact ⟨⟨h1, ⟨by show (l.length : Int) <= 4000; omega, copiesGo_sub h3 hs⟩, by show ((apx l).length : Int) <= 500; rw [GZ]; omega⟩, h5⟩
theorem mA.sub {w : bt} (h : mA w) {l : List ai} (hs : l.Sublist w.zones) : mA (JB w l) :=
 ⟨h.hosts, Nat.le_trans hs.length_le h.zones, h.hints, fun p hp => h.few p (hs.subset hp)⟩
def dropW (w : bt) (a : Bs) : bt := JB w (w.zones.filter fun p => p.zone.apex != a)
theorem best_filter {ok f : ai -> Bool} {better : ai -> ai -> Bool} : ∀ (l : List ai) (i j : Nat) (b b' : Option (Nat × ai)), b.map (·.2) = b'.map (·.2) -> (∀ p ∈ l, ok p = true -> f p = true) ->
 (eJ ok better i (l.filter f) b).map (·.2) = (eJ ok better j l b').map (·.2)
 | [], i, j, b, b', h, _ => h
 | p :: t, i, j, b, b', h, hf => by
  have ht := fun q hq => hf q (List.mem_cons_of_mem _ hq)
  have hstep : (b5 ok better i p b).map (·.2) = (b5 ok better j p b').map (·.2) := by
   unfold b5
   by_cases hp : ok p = true
   . rw [if_pos hp, if_pos hp]
     cases b with
     | none =>
      cases b' with
      | none => rfl
      | some y => cases h
     | some x =>
      cases b' with
      | none => cases h
      | some y =>
       have e : x.2 = y.2 := Option.some.inj h
       dsimp only
       rw [e]
       split
       . rfl
       . exact congrArg some e
   . rw [if_neg hp, if_neg hp]; exact h
  by_cases hfp : f p = true
  . rw [List.filter_cons_of_pos hfp]
    exact best_filter t (i + 1) (j + 1) _ _ hstep ht
  . rw [List.filter_cons_of_neg hfp]
    have hp : ok p ≠ true := fun e => hfp (hf p (List.mem_cons_self ..) e)
    refine best_filter t i (j + 1) b _ ?_ ht
    rw [if_neg hp]; exact h
theorem copy_dropped (zs : List ai) (a : Bs) : l0 (zs.filter fun p => p.zone.apex != a) a = none := by
 unfold l0
 rw [nh]
 refine ⟨rfl, fun p hp => ?_⟩
 have := (List.mem_filter.1 hp).2
 simpa using this
theorem copy_kept (zs : List ai) {a b : Bs} (h : a ≠ b) : (l0 (zs.filter fun p => p.zone.apex != b) a).map (·.2) = (l0 zs a).map (·.2) := by
 unfold l0
 refine best_filter zs 0 0 none none rfl fun p _ hp => ?_
 have e : p.zone.apex = a := by simpa using hp
 rw [e]; simpa using h
theorem rootAns_step (zs : List ai) (q : ax) : cz zs q = match l0 zs [46] with
 | none => (dX, false)
 | some x => if ((bg x.2.zone q).1.kind != 4) = true then ((bg x.2.zone q).1, true) else gX zs (dU zs) q ((back q.name).length + 1) (bg x.2.zone q).1.cut := y9 zs q _ _
theorem rootAns_dark {zs : List ai} {q : ax} (h : l0 zs [46] = none) : cz zs q = (dX, false) := by rw [rootAns_step, h]
theorem truth_dark {w : bt} {q : ax} (hv : bC w = true) (hq : aP q = true) (h : (cz w.zones q).2 = false) : iG w q = (dX, 34) := by
 rw [truthR_go hv hq]
 unfold jc
 rw [if_pos (by rw [h]; rfl)]
theorem copy_apex {zs : List ai} {a : Bs} {x : Nat × ai} (h : l0 zs a = some x) : x.2.zone.apex = a := by
 have key : ∀ (l : List ai) (i : Nat) (b : Option (Nat × ai)), (∀ y, b = some y -> y.2.zone.apex = a) -> ∀ y, eJ (fun p => p.zone.apex == a) eL i l b = some y -> y.2.zone.apex = a := fun l => by
  induction l with
  | nil => intro i b hb y hy; exact hb y hy
  | cons p t ih =>
   intro i b hb y hy
   refine ih (i + 1) (b5 (fun p => p.zone.apex == a) eL i p b) (fun z hz => ?_) y hy
   unfold b5 at hz
   split at hz
   . rename_i hp
     have hp : p.zone.apex = a := by simpa using hp
     split at hz
     . cases hz; exact hp
     . split at hz
       . cases hz; exact hp
       . exact hb z hz
   . exact hb z hz
 exact key zs 0 none (fun y hy => by cases hy) x h
end NP
namespace Go.Proofs.YtnbnldnfkikakaaGreatDoor
open NQ Go NP Go.RowKit
theorem dropped_fn (w : bt) (a : Bs) (hl : w.zones.length <= 1000) : NQ.Fn cx 28 [.str a, .ptr (bH w)] (.agg ((bH (dropW w a)).map .d)) [] := by
 refine cM (fun | 8 => [100] | _ => []) aB mixed Tryz.func28 (by kernel_rfl) rfl (Nat.le_of_ble_eq_true rfl) ?_
 conv => whnf
 refine ⟨Nat, fun k => ⟨[(0, .d (.str a)), (1, .d (.ptr (bH w))), (3, .ptr 3 0), (4, .own 100), (8, .d (.slice 3 (w.zones.map aR))), (9, .d (.int .i64 ((w.zones.map aR).length : Int))), (10, .d (.int .i64 k))], [(3, .box [.nil 3, .nil 3, .d (.str []), .d (.int .i64 0), .d (.int .i64 0), .nil 3, .nil 1]), (100, .row 49 3 (((w.zones.take k).filter fun p => p.zone.apex != a).map aR))]⟩,
  fun k => k <= w.zones.length, fun k => w.zones.length - k,
  ⟨0, Nat.zero_le _, (ah.rr 4 100 3 49 3 rfl rfl (by decide)).trans (ah.keep ⟨⟨rfl, rfl⟩, ⟨rfl, rfl⟩, ⟨rfl, rfl⟩, ⟨rfl, rfl⟩, ⟨rfl, rfl⟩, ⟨rfl, rfl⟩, ⟨rfl, rfl⟩, trivial⟩ ⟨⟨rfl, rfl⟩, ⟨rfl, rfl⟩, trivial⟩)⟩, fun k hk => ?_⟩
 conv => whnf
 refine ab (fun g1 => ?_) (fun g1 => ?_) <;> (rw [g1]; conv => whnf)
 . have hlt : k < w.zones.length := by simpa using g1
   obtain ⟨p, hp⟩ : ∃ p, w.zones[k]? = some p := ⟨_, List.getElem?_eq_getElem hlt⟩
   refine ⟨Int.natCast_nonneg k, aR p, ay hp, ?_⟩
   conv => whnf
   have hsz : (((w.zones.take k).filter fun p => p.zone.apex != a)).length <= k := Nat.le_trans (List.length_filter_le _ _) (by rw [List.length_take]; omega)
   refine ab (fun g2 => ?_) (fun g2 => ?_) <;> (rw [g2]; conv => whnf)
   . refine ⟨by (show (((w.zones.take k).filter fun p => p.zone.apex != a).map aR).length + 1 <= _); rw [List.length_map]; omega, by (show ((((w.zones.take k).filter fun p => p.zone.apex != a).map aR).length + 1) * 48 <= _); rw [List.length_map]; omega, ?_⟩
     conv => whnf
     refine ⟨k + 1, hlt, by (show w.zones.length - (k + 1) < w.zones.length - k; omega), ah.keep ⟨⟨rfl, rfl⟩, ⟨rfl, rfl⟩, ⟨rfl, rfl⟩, ⟨rfl, rfl⟩, ⟨rfl, rfl⟩, ⟨rfl, rfl⟩, ⟨ak (by omega), rfl⟩, trivial⟩ ⟨⟨rfl, rfl⟩, ⟨?_, rfl⟩, trivial⟩⟩
     rw [bw hp, List.filter_append, List.map_append, List.filter_cons_of_pos (p := fun p : ai => p.zone.apex != a) g2]; rfl
   . refine ⟨k + 1, hlt, by (show w.zones.length - (k + 1) < w.zones.length - k; omega), ah.keep ⟨⟨rfl, rfl⟩, ⟨rfl, rfl⟩, ⟨rfl, rfl⟩, ⟨rfl, rfl⟩, ⟨rfl, rfl⟩, ⟨rfl, rfl⟩, ⟨ak (by omega), rfl⟩, trivial⟩ ⟨⟨rfl, rfl⟩, ⟨?_, rfl⟩, trivial⟩⟩
     have e : (w.zones.take (k + 1)).filter (fun p => p.zone.apex != a) = (w.zones.take k).filter (fun p => p.zone.apex != a) := by
      have g2' : (p.zone.apex != a) = false := g2
      rw [bw hp, List.filter_append]
      simp [g2']
     rw [e]; rfl
 . obtain rfl : k = w.zones.length := by simp at g1; omega
   rw [List.take_length]
   (refine ⟨_, _, JG w (w.zones.filter fun p => p.zone.apex != a), ?_⟩; conv => whnf)
   exact ae rfl rfl
end Go.Proofs.YtnbnldnfkikakaaGreatDoor

set_option maxRecDepth 100000
namespace NP
open NQ Go
theorem dropW_valid {w : bt} (h : bC w = true) (a : Bs) : bC (dropW w a) = true := validW_sub h (List.filter_sublist ..)
theorem dropW_few {w : bt} (h : mA w) (a : Bs) : mA (dropW w a) := h.sub (List.filter_sublist ..)
theorem drop_root_dark {w : bt} {q : ax} (hv : bC w = true) (hq : aP q = true) : iG (dropW w [46]) q = (dX, 34) :=
 truth_dark (dropW_valid hv _) hq (by
  show (cz (w.zones.filter fun p => p.zone.apex != [46]) q).2 = false
  rw [rootAns_dark (copy_dropped w.zones [46])])
theorem drop_cut_dark {w : bt} {q : ax} (hv : bC w = true) (hq : aP q = true) {x : Nat × ai} (hx : l0 w.zones [46] = some x) (hk : ((bg x.2.zone q).1.kind != 4) = false) (hne : [46] ≠ (bg x.2.zone q).1.cut) :
 iG (dropW w (bg x.2.zone q).1.cut) q = (dX, 34) :=
 truth_dark (dropW_valid hv _) hq (by
  show (cz (w.zones.filter fun p => p.zone.apex != (bg x.2.zone q).1.cut) q).2 = false
  have h1 := copy_kept w.zones hne
  rw [hx] at h1
  rw [rootAns_step]
  generalize hc : (bg x.2.zone q).1.cut = c at *
  cases hy : l0 (w.zones.filter fun p => p.zone.apex != c) [46] with
  | none => rfl
  | some y =>
   rw [hy] at h1
   have e : y.2 = x.2 := Option.some.inj h1
   dsimp only
   rw [e, if_neg (by rw [hk]; simp), hc, y9, copy_dropped])
theorem root_first {w : bt} {q : ax} (hv : bC w = true) (hq : aP q = true) {x : Nat × ai} (hx : l0 w.zones [46] = some x) (hk : ((bg x.2.zone q).1.kind != 4) = true) (h3 : ((bg x.2.zone q).1.kind != 3) = true) :
 iG w q = ((bg x.2.zone q).1, 0) := by
 have hr : cz w.zones q = ((bg x.2.zone q).1, true) := by rw [rootAns_step, hx]; dsimp only; rw [if_pos hk]
 rw [truthR_go hv hq, jc, hr, if_neg (by simp), if_pos h3]
 rfl
end NP
namespace Go.Proofs.YtnbnldnfkikakaaGreatDoor
open NQ Go NP Go.RowKit
set_option maxHeartbeats 1000000 in
theorem worldReferrals_fn (w : bt) (q : ax) : NQ.Fn cx 7 [.agg (bH w), .agg (bA q)] (.d (.bool true)) [] := by
 have fU := Ji w q
 cases hu : (kM w && bC w && aP q) with
 | false =>
  rw [hu] at fU
  refine ar aB mixed Tryz.func7 (by kernel_rfl) rfl (Nat.le_of_ble_eq_true rfl) ?_; conv => whnf
  (refine ⟨_, _, JE, ?_⟩; conv => whnf)
  (refine ⟨_, _, fU, ?_⟩; conv => whnf)
  exact ae rfl rfl
 | true =>
 rw [hu] at fU
 simp only [Bool.and_eq_true] at hu
 obtain ⟨⟨hfew, hval⟩, hq⟩ := hu
 have hF := (Fj hfew).1
 have hlen := hF.zones
 have hg : nf w.zones := fun p hp => ⟨hF.few p hp, (mZ hval p hp).1⟩
 have fD0 := dropped_fn w [46] hlen
 have fT0 := za (dropW w [46]) q (dropW_few hF _)
 rw [drop_root_dark hval hq] at fT0
 have fC := xR w.zones [46] (fun p hp => (hg p hp).2) (by omega)
 refine cM (fun | 4 => [2] | _ => []) aB mixed Tryz.func7 (by kernel_rfl) rfl (Nat.le_of_ble_eq_true rfl) ?_
 conv => whnf
 (refine ⟨_, _, JE, ?_⟩; conv => whnf)
 (refine ⟨_, _, fU, ?_⟩; conv => whnf)
 (refine ⟨(by kernel_rfl : aO _ _ = true), ?_⟩; conv => whnf)
 (refine ⟨_, _, fD0, ?_⟩; conv => whnf)
 (refine ⟨_, _, fT0, ?_⟩; conv => whnf)
 (refine ⟨_, _, fC, ?_⟩; conv => whnf)
 cases hx : l0 w.zones [46] with
 | none =>
  conv => whnf
  exact ae rfl rfl
 | some x =>
  have hxz := xQ _ _ x hx
  have hxm := List.mem_of_getElem? hxz
  have hxa := copy_apex hx
  have u : Use x.2.zone q := ⟨(hg _ hxm).1, (hg _ hxm).2, hq, by rw [hxa]; exact qI q.name⟩
  have fA := CO x.2.zone q (hg _ hxm).1
  rw [Ey u] at fA
  have fT := za w q hF
  conv => whnf
  (refine ⟨(by kernel_rfl : aO _ _ = true), ?_⟩; conv => whnf)
  refine ⟨Int.natCast_nonneg x.1, aR x.2, ay hxz, ?_⟩
  conv => whnf
  (refine ⟨_, _, fA, ?_⟩; conv => whnf)
  (refine ⟨_, _, fT, ?_⟩; conv => whnf)
  cases hk : ((bg x.2.zone q).1.kind != 4) with
  | false =>
   obtain ⟨_, h2, _⟩ := qw u hk
   have hne : [46] ≠ (bg x.2.zone q).1.cut := by
    intro e
    rw [hxa, <- e] at h2; omega
   have fDc := dropped_fn w (bg x.2.zone q).1.cut hlen
   have fTc := za (dropW w (bg x.2.zone q).1.cut) q (dropW_few hF _)
   rw [drop_cut_dark hval hq hx hk hne] at fTc
   have hk4 : ((bg x.2.zone q).1.kind == 4) = true := by simpa [bne] using hk
   rw [hk4]
   conv => whnf
   (refine ⟨(by kernel_rfl : aO _ _ = true), ?_⟩; conv => whnf)
   (refine ⟨_, _, fDc, ?_⟩; conv => whnf)
   (refine ⟨_, _, fTc, ?_⟩; conv => whnf)
   exact ae rfl rfl
  | true =>
   have hk4 : ((bg x.2.zone q).1.kind == 4) = false := by simpa [bne] using hk
   rw [hk4]
   conv => whnf
   cases h3 : ((bg x.2.zone q).1.kind != 3) with
   | false =>
    have hk3 : ((bg x.2.zone q).1.kind == 3) = true := by simpa [bne] using h3
    rw [hk3]
    conv => whnf
    exact ae rfl rfl
   | true =>
    have hk3 : ((bg x.2.zone q).1.kind == 3) = false := by simpa [bne] using h3
    have e := root_first hval hq hx hk h3
    have sS := Jg _ (Jh hF q)
    rw [hk3, e]
    rw [e] at sS
    conv => whnf
    (refine ⟨_, _, sS, ?_⟩; conv => whnf)
    exact ae rfl rfl
end Go.Proofs.YtnbnldnfkikakaaGreatDoor
