/-
  Law 16 on plain data: WorldAliases.
-/
import Derived.Test.YtnbnldnfkikakaaGreatDoorMGja
set_option linter.all false
set_option maxRecDepth 100000
namespace NP
open NQ Go
def nextQ (q : ax) (d : Datum) : ax := ⟨d.text, q.type⟩
theorem nextQ_ok {q : ax} {d : Datum} (hq : aP q = true) (hd : af d.text = true) : aP (nextQ q d) = true := by
 unfold aP at hq ⊢
 simp only [Bool.and_eq_true] at hq ⊢
 exact ⟨⟨hd, hq.1.2⟩, hq.2⟩
theorem truthGo_cases {zs : List ai} (hg : nf zs) {q : ax} (hq : aP q = true) :
 ((cz zs q).2 = false /\ ∀ f kept, jc zs (f + 1) q kept = (dX, 34)) \/
 ((cz zs q).2 = true /\ ((cz zs q).1.kind != 3) = true /\ ∀ f kept, jc zs (f + 1) q kept = (⟨(cz zs q).1.kind, kept ++ (cz zs q).1.sets, (cz zs q).1.cut⟩, 0)) \/
 (∃ s R d, (cz zs q).2 = true /\ (cz zs q).1.kind = 3 /\ (cz zs q).1.sets = s :: R /\ s.set.data = [d] /\ aP (nextQ q d) = true /\ ∀ f kept, jc zs (f + 1) q kept = jc zs f (nextQ q d) (kept ++ [s])) := by
 cases hok : (cz zs q).2 with
 | false => exact .inl ⟨rfl, fun f kept => by unfold jc; rw [if_pos (by rw [hok]; rfl)]⟩
 | true =>
  obtain ⟨p, hpm, u, hpa, hp4⟩ := qz hg hq (x := (cz zs q).1) (by rw [<- hok])
  cases hk : ((cz zs q).1.kind != 3) with
  | true => exact .inr (.inl ⟨rfl, rfl, fun f kept => by unfold jc; rw [if_neg (by rw [hok]; simp), if_pos hk]⟩)
  | false =>
   have hk' : (cz zs q).1.kind = 3 := by simpa using hk
   obtain ⟨s, R, d, hs, hsm, hst, hsd, hdv⟩ := u.CK (by rw [<- hpa]; exact hk')
   rw [<- hpa] at hs
   refine .inr (.inr ⟨s, R, d, rfl, hk', hs, hsd, nextQ_ok hq hdv, fun f kept => ?_⟩)
   rw [jc, if_neg (by rw [hok]; simp), if_neg (by rw [hk]; simp), hs]
   simp only [List.head?_cons, hsd]
   rfl
def keptA (kept : List Signed) (T : Ans × Int) : Ans × Int := if T.2 = 0 then (⟨T.1.kind, kept ++ T.1.sets, T.1.cut⟩, 0) else T
theorem keptA_app (a b : List Signed) (T : Ans × Int) : keptA a (keptA b T) = keptA (a ++ b) T := by
 unfold keptA
 by_cases h : T.2 = 0
 . rw [if_pos h, if_pos rfl, if_pos h, List.append_assoc]
 . rw [if_neg h, if_neg h, if_neg h]
theorem truthGo_kept {zs : List ai} (hg : nf zs) : ∀ (f : Nat) (q : ax) (kept : List Signed), aP q = true -> jc zs f q kept = keptA kept (jc zs f q [])
 | 0, q, kept, _ => by simp [jc, keptA]
 | f + 1, q, kept, hq => by
  rcases truthGo_cases hg hq with ⟨_, h⟩ | ⟨_, _, h⟩ | ⟨s, R, d, _, _, _, _, hq', h⟩
  . rw [h, h]; rfl
  . rw [h, h]; simp [keptA]
  . rw [h, h, truthGo_kept hg f _ (kept ++ [s]) hq', truthGo_kept hg f _ ([] ++ [s]) hq', keptA_app]; simp
theorem keptA_two (kept : List Signed) (T : Ans × Int) : (keptA kept T).2 = T.2 := by
 unfold keptA; split <;> simp_all
theorem truthGo_more {zs : List ai} (hg : nf zs) : ∀ (f : Nat) (q : ax), aP q = true -> (jc zs f q []).2 ≠ 33 -> jc zs (f + 1) q [] = jc zs f q []
 | 0, q, _, h => absurd rfl h
 | f + 1, q, hq, h => by
  rcases truthGo_cases hg hq with ⟨_, e⟩ | ⟨_, _, e⟩ | ⟨s, R, d, _, _, _, _, hq', e⟩
  . rw [e, e]
  . rw [e, e]
  . rw [e f] at h ⊢
    rw [e (f + 1)]
    rw [truthGo_kept hg (f + 1) _ _ hq', truthGo_kept hg f _ _ hq'] 
    rw [truthGo_kept hg f _ _ hq', keptA_two] at h
    rw [truthGo_more hg f _ hq' h]
theorem truthGo_long {zs : List ai} (hg : nf zs) : ∀ (f : Nat) (q : ax), aP q = true -> (jc zs f q []).2 = 33 -> (jc zs (f + 1) q []).2 = 0 -> f <= (jc zs (f + 1) q []).1.sets.length
 | 0, q, _, _, _ => Nat.zero_le _
 | f + 1, q, hq, h, h0 => by
  rcases truthGo_cases hg hq with ⟨_, e⟩ | ⟨_, _, e⟩ | ⟨s, R, d, _, _, _, _, hq', e⟩
  . rw [e] at h0; cases h0
  . rw [e] at h; cases h
  . rw [e f, truthGo_kept hg f _ _ hq', keptA_two] at h
    rw [e (f + 1), truthGo_kept hg (f + 1) _ _ hq'] at h0 ⊢
    rw [keptA_two] at h0
    have := truthGo_long hg f _ hq' h h0
    unfold keptA
    rw [if_pos h0]
    simp only [List.nil_append, List.length_append, List.length_singleton]
    omega
theorem alias_truth {zs : List ai} (hg : nf zs) {q q' : ax} {s : Signed} (hq' : aP q' = true) (h : ∀ f kept, jc zs (f + 1) q kept = jc zs f q' (kept ++ [s])) :
 ((jc zs 9 q' []).2 ≠ 0 -> (jc zs 9 q []).2 = (jc zs 9 q' []).2 \/ (jc zs 9 q []).2 = 33) /\
 ((jc zs 9 q' []).2 = 0 -> (jc zs 9 q' []).1.sets.length <= 7 -> jc zs 9 q [] = (⟨(jc zs 9 q' []).1.kind, s :: (jc zs 9 q' []).1.sets, (jc zs 9 q' []).1.cut⟩, 0)) := by
 have e : jc zs 9 q [] = keptA [s] (jc zs 8 q' []) := by rw [h 8, truthGo_kept hg 8 _ _ hq']; rfl
 by_cases h33 : (jc zs 8 q' []).2 = 33
 . refine ⟨fun _ => .inr (by rw [e, keptA_two]; exact h33), fun h0 hl => ?_⟩
   have : 8 <= (jc zs 9 q' []).1.sets.length := truthGo_long hg 8 q' hq' h33 h0
   omega
 . have e9 := truthGo_more hg 8 q' hq' h33
   rw [e9]
   refine ⟨fun _ => .inl (by rw [e, keptA_two]), fun h0 _ => ?_⟩
   rw [e]; unfold keptA; rw [if_pos h0]; rfl
theorem truthR_go {w : bt} {q : ax} (hv : bC w = true) (hq : aP q = true) : iG w q = jc w.zones 9 q [] := by unfold iG; rw [if_neg (by rw [hv, hq]; simp)]
end NP
namespace Go.Proofs.YtnbnldnfkikakaaGreatDoor
open NQ Go NP Go.RowKit
set_option maxHeartbeats 1000000 in
theorem worldAliases_fn (w : bt) (q : ax) : NQ.Fn cx 6 [.agg (bH w), .agg (bA q)] (.d (.bool true)) [] := by
 have fU := Ji w q
 cases hu : (kM w && bC w && aP q) with
 | false =>
  rw [hu] at fU
  refine ar aB mixed Tryz.func6 (by kernel_rfl) rfl (Nat.le_of_ble_eq_true rfl) ?_; conv => whnf
  (refine ⟨_, _, JE, ?_⟩; conv => whnf)
  (refine ⟨_, _, fU, ?_⟩; conv => whnf)
  exact ae rfl rfl
 | true =>
 rw [hu] at fU
 simp only [Bool.and_eq_true] at hu
 obtain ⟨⟨hfew, hval⟩, hq⟩ := hu
 have hF := (Fj hfew).1
 have hg : nf w.zones := fun p hp => ⟨hF.few p hp, (mZ hval p hp).1⟩
 have fF := Jn w.zones q hg hq (by have := hF.zones; omega)
 have fT := za w q hF
 have sT := Jh hF q
 rw [truthR_go hval hq] at fT sT
 rcases truthGo_cases hg hq with ⟨hno, e⟩ | ⟨hok, hk, e⟩ | ⟨s, R, d, hok, hk, hs, hsd, hq', e⟩
 . skip
   rw [e 8 []] at fT
   rw [hno] at fF
   refine ar aB mixed Tryz.func6 (by kernel_rfl) rfl (Nat.le_of_ble_eq_true rfl) ?_; conv => whnf
   (refine ⟨_, _, JE, ?_⟩; conv => whnf)
   (refine ⟨_, _, fU, ?_⟩; conv => whnf)
   (refine ⟨_, _, fF, ?_⟩; conv => whnf)
   (refine ⟨_, _, fT, ?_⟩; conv => whnf)
   repeat' (first | (refine ⟨(by kernel_rfl : aO _ _ = true), ?_⟩; conv => whnf) | fail)
   exact ae rfl rfl
 . have he : jc w.zones 9 q [] = ((cz w.zones q).1, 0) := by rw [e 8 []]; rfl
   rw [he] at fT sT
   rw [hok] at fF
   have sS := Jg _ sT
   generalize (cz w.zones q).1 = A at *
   refine ar aB mixed Tryz.func6 (by kernel_rfl) rfl (Nat.le_of_ble_eq_true rfl) ?_; conv => whnf
   (refine ⟨_, _, JE, ?_⟩; conv => whnf)
   (refine ⟨_, _, fU, ?_⟩; conv => whnf)
   (refine ⟨_, _, fF, ?_⟩; conv => whnf)
   (refine ⟨_, _, fT, ?_⟩; conv => whnf)
   rw [hk]
   conv => whnf
   (refine ⟨_, _, sS, ?_⟩; conv => whnf)
   exact ae rfl rfl
 . have fT2 := za w (nextQ q d) hF
   have sT2 := Jh hF (nextQ q d)
   obtain ⟨k1, k2⟩ := alias_truth hg hq' e
   rw [truthR_go hval hq'] at fT2 sT2
   rw [hok] at fF
   generalize jc w.zones 9 (nextQ q d) [] = B at *
   generalize jc w.zones 9 q [] = A at *
   have hk3 : ((cz w.zones q).1.kind != 3) = false := by rw [hk]; rfl
   generalize hr : (cz w.zones q).1 = r at *
   obtain ⟨rk, rs, rc⟩ := r
   obtain ⟨⟨sn, st, sl, sd⟩, sg⟩ := s
   dsimp only at hs hk hk3 hsd
   subst hs
   subst hsd
   refine cM (fun | 15 => [66666] | _ => []) aB mixed Tryz.func6 (by kernel_rfl) rfl (Nat.le_of_ble_eq_true rfl) ?_
   conv => whnf
   (refine ⟨_, _, JE, ?_⟩; conv => whnf)
   (refine ⟨_, _, fU, ?_⟩; conv => whnf)
   (refine ⟨_, _, fF, ?_⟩; conv => whnf)
   (refine ⟨_, _, fT, ?_⟩; conv => whnf)
   rw [hk3]
   conv => whnf
   refine ⟨by decide, ag ⟨⟨sn, st, sl, [d]⟩, sg⟩, rfl, ?_⟩
   conv => whnf
   repeat' (first
    | (refine ⟨(by kernel_rfl : aO _ _ = true), ?_⟩; conv => whnf)
    | (refine ⟨by decide, ag ⟨⟨sn, st, sl, [d]⟩, sg⟩, rfl, ?_⟩; conv => whnf)
    | (refine ⟨by decide, bG d, rfl, ?_⟩; conv => whnf)
    | (refine ⟨_, _, fT2, ?_⟩; conv => whnf)
    | fail)
   refine ab (fun h1 => ?_) (fun h1 => ?_) <;> (rw [h1]; conv => whnf)
   . have hne : B.2 ≠ 0 := by simpa using h1
     rcases k1 hne with e1 | e1
     . rw [e1]
       refine ab (fun h2 => ?_) (fun h2 => ?_) <;> (rw [h2]; conv => whnf)
       . exact ae rfl rfl
       . exfalso; simp at h2
     . rw [e1]
       refine ab (fun h2 => ?_) (fun h2 => ?_) <;> (rw [h2]; conv => whnf)
       . exact ae rfl rfl
       . exact ae rfl rfl
   . have h0 : B.2 = 0 := by simpa using h1
     refine ab (fun h2 => ?_) (fun h2 => ?_) <;> (rw [h2]; conv => whnf)
     . exact ae rfl rfl
     have hl : B.1.sets.length <= 7 := by
      have := of_decide_eq_false h2
      rw [List.length_map] at this; omega
     have hA := k2 h0 hl
     subst hA
     have sS := Jg _ sT
     (refine ⟨(by kernel_rfl : iM _ = true), ?_⟩; conv => whnf)
     repeat' (first
      | (refine ⟨by decide, ag ⟨⟨sn, st, sl, [d]⟩, sg⟩, rfl, ?_⟩; conv => whnf)
      | (refine ⟨by (show 1 + (B.1.sets.map ag).length <= _; rw [List.length_map]; omega), by (show (1 + (B.1.sets.map ag).length) * 80 <= _; rw [List.length_map]; omega), ?_⟩; conv => whnf)
      | (refine ⟨by kernel_rfl, ?_⟩; conv => whnf)
      | (refine ⟨_, sS, by rfl, ?_⟩; conv => whnf)
      | exact ae rfl rfl
      | (refine ⟨?_, ?_⟩ <;> (conv => whnf))
      | fail)
end Go.Proofs.YtnbnldnfkikakaaGreatDoor
