/-
  Law 16 on plain data: WorldHomes.
-/
import Derived.Test.YtnbnldnfkikakaaGreatDoorMGja
set_option linter.all false
set_option maxRecDepth 100000
namespace NP
open NQ Go
theorem under_between {s a b : Bs} (ha : ao s a = true) (hb : ao s b = true) (h : iB a <= iB b) : ao b a = true := by
 rw [cL] at ha hb ⊢
 refine List.prefix_of_prefix_length_le ha hb ?_
 unfold iB at h
 rw [back_eq, back_eq, List.length_reverse, List.length_reverse]; omega
def foundB (s home : Bs) (l : List ai) : Bool := l.any fun p => ao s p.zone.apex && (home == p.zone.apex)
theorem foundB_snoc (s home : Bs) (l : List ai) (p : ai) : foundB s home (l ++ [p]) = (foundB s home l || (ao s p.zone.apex && (home == p.zone.apex))) := by unfold foundB; simp [List.any_append]
theorem deepOk_all {s : Bs} {p : ai} (hp : af p.zone.apex = true) : iu (-1) s [] p = ao s p.zone.apex := by
 unfold iu
 have : (p.zone.apex == []) = false := by simpa using zf hp
 rw [this]; simp
theorem home_laws {w : bt} {s : Bs} (hval : bC w = true) (hs : af s = true) :
 (∀ p ∈ w.zones, ao s p.zone.apex = true -> (ic true w s).2 = 0 /\ ao (ic true w s).1 p.zone.apex = true) /\ (foundB s (ic true w s).1 w.zones = ((ic true w s).2 == 0)) /\ ((ic true w s).2 = 0 \/ (ic true w s).2 = 4) /\ (ic true w s).1.length <= 60 := by
 have hz : ∀ p ∈ w.zones, af p.zone.apex = true := fun p hp => (aS (mZ hval p hp).1).apex
 have hh : ic true w s = if (toH (iP w.zones (-1) s [])).2 < 0 then ([], 4) else ((toH (iP w.zones (-1) s [])).1, 0) := by
  unfold ic; rw [if_neg (by rw [hs]; simp), JF hs hz]
 cases hd : iP w.zones (-1) s [] with
 | none =>
  have hh' : ic true w s = ([], 4) := by rw [hh, hd]; rfl
  unfold iP at hd
  rw [nh] at hd
  have hno : ∀ p ∈ w.zones, ao s p.zone.apex = false := fun p hp => by rw [<- deepOk_all (hz p hp)]; exact hd.2 p hp
  rw [hh']
  refine ⟨fun p hp hu => ?_, ?_, .inr rfl, by decide⟩
  . rw [hno p hp] at hu; cases hu
  . show foundB s [] w.zones = false
    unfold foundB
    rw [List.any_eq_false]
    intro p hp
    rw [hno p hp]; simp
 | some x =>
  obtain ⟨h1, h2, h3⟩ := xY hd
  rw [deepOk_all (hz _ h1)] at h2
  have hh' : ic true w s = (x.2.zone.apex, 0) := by
   rw [hh, hd, if_neg (by have := (sH x.2.zone.apex).1; show ¬ cv x.2.zone.apex < 0; omega)]; rfl
  rw [hh']
  refine ⟨fun p hp hu => ⟨rfl, ?_⟩, ?_, .inl rfl, bj (hz _ h1)⟩
  . exact under_between hu h2 (h3 p hp (by rw [deepOk_all (hz p hp)]; exact hu))
  . show foundB s x.2.zone.apex w.zones = true
    unfold foundB
    rw [List.any_eq_true]
    exact ⟨x.2, h1, by rw [h2]; simp⟩
end NP
namespace Go.Proofs.YtnbnldnfkikakaaGreatDoor
open NQ Go NP Go.RowKit
theorem worldHomes_fn (w : bt) (s : Bs) : NQ.Fn cx 5 [.agg (bH w), .str s] (.d (.bool true)) [] := by
 refine ar aB mixed Tryz.func5 (by kernel_rfl) rfl (Nat.le_of_ble_eq_true rfl) ?_; conv => whnf
 (refine ⟨_, _, JE, ?_⟩; conv => whnf)
 (refine ⟨_, _, Hh w, ?_⟩; conv => whnf)
 cases hf : kM w with
 | false =>
  conv => whnf
  exact ae rfl rfl
 | true =>
 have hF := (Fj hf).1
 conv => whnf
 (refine ⟨_, _, Cy w hF, ?_⟩; conv => whnf)
 cases hval : bC w with
 | false =>
  conv => whnf
  exact ae rfl rfl
 | true =>
 conv => whnf
 (refine ⟨_, _, lz s, ?_⟩; conv => whnf)
 cases hs : af s with
 | false =>
  conv => whnf
  exact ae rfl rfl
 | true =>
 conv => whnf
 have fH := ym w s hF
 rw [hval] at fH
 obtain ⟨h1, h2, h3, h4⟩ := home_laws hval hs
 generalize ic true w s = H at *
 obtain ⟨home, e⟩ := H
 dsimp only at h1 h2 h3 h4 fH
 have hz : ∀ p ∈ w.zones, af p.zone.apex = true := fun p hp => (aS (mZ hval p hp).1).apex
 have hlen := hF.zones
 (refine ⟨_, _, fH, ?_⟩; conv => whnf)
 refine ⟨Nat, fun k => ⟨[(1, .d (.str s)), (2, .ptr 2 0), (5, .d (.bool true)), (6, .d (.str home)), (7, .d (.int .i64 e)), (8, .d (.bool (foundB s home (w.zones.take k)))), (33, .d (.slice 3 (w.zones.map aR))), (34, .d (.int .i64 ((w.zones.map aR).length : Int))), (35, .d (.int .i64 k))], [(2, .box ((bH w).map .d))]⟩,
  fun k => k <= w.zones.length, fun k => w.zones.length - k,
  ⟨0, Nat.zero_le _, ah.keep ⟨⟨rfl, rfl⟩, ⟨rfl, rfl⟩, ⟨rfl, rfl⟩, ⟨rfl, rfl⟩, ⟨rfl, rfl⟩, ⟨rfl, rfl⟩, ⟨rfl, rfl⟩, ⟨rfl, rfl⟩, ⟨rfl, rfl⟩, trivial⟩ ⟨⟨rfl, rfl⟩, trivial⟩⟩, fun k hk => ?_⟩
 conv => whnf
 refine ab (fun g1 => ?_) (fun g1 => ?_) <;> (rw [g1]; conv => whnf)
 . have hlt : k < w.zones.length := by simpa using g1
   obtain ⟨p, hp⟩ : ∃ p, w.zones[k]? = some p := ⟨_, List.getElem?_eq_getElem hlt⟩
   have hpm := List.mem_of_getElem? hp
   have hpv := hz p hpm
   refine ⟨Int.natCast_nonneg k, aR p, ay hp, ?_⟩
   conv => whnf
   (refine ⟨_, _, j4 s p.zone.apex (bj hs) (bj hpv), ?_⟩; conv => whnf)
   cases hu : ao s p.zone.apex with
   | false =>
    conv => whnf
    refine ⟨k + 1, hlt, by (show w.zones.length - (k + 1) < w.zones.length - k; omega), ah.keep ⟨⟨rfl, rfl⟩, ⟨rfl, rfl⟩, ⟨rfl, rfl⟩, ⟨rfl, rfl⟩, ⟨rfl, rfl⟩, ⟨?_, rfl⟩, ⟨rfl, rfl⟩, ⟨rfl, rfl⟩, ⟨ak (by omega), rfl⟩, trivial⟩ ⟨⟨rfl, rfl⟩, trivial⟩⟩
    rw [bw hp, foundB_snoc, hu, Bool.false_and, Bool.or_false]; rfl
   | true =>
    obtain ⟨he, hb⟩ := h1 p hpm hu
    subst he
    conv => whnf
    (refine ⟨_, _, j4 home p.zone.apex h4 (bj hpv), ?_⟩; conv => whnf)
    rw [hb]
    conv => whnf
    have key : foundB s home (w.zones.take (k + 1)) = (foundB s home (w.zones.take k) || (home == p.zone.apex)) := by rw [bw hp, foundB_snoc, hu, Bool.true_and]
    cases hfo : foundB s home (w.zones.take k) with
    | true =>
     rw [hfo] at key
     conv => whnf
     refine ⟨k + 1, hlt, by (show w.zones.length - (k + 1) < w.zones.length - k; omega), ah.keep ⟨⟨rfl, rfl⟩, ⟨rfl, rfl⟩, ⟨rfl, rfl⟩, ⟨rfl, rfl⟩, ⟨rfl, rfl⟩, ⟨?_, rfl⟩, ⟨rfl, rfl⟩, ⟨rfl, rfl⟩, ⟨ak (by omega), rfl⟩, trivial⟩ ⟨⟨rfl, rfl⟩, trivial⟩⟩
     rw [key]; rfl
    | false =>
     rw [hfo] at key
     conv => whnf
     refine ⟨k + 1, hlt, by (show w.zones.length - (k + 1) < w.zones.length - k; omega), ah.keep ⟨⟨rfl, rfl⟩, ⟨rfl, rfl⟩, ⟨rfl, rfl⟩, ⟨rfl, rfl⟩, ⟨rfl, rfl⟩, ⟨?_, rfl⟩, ⟨rfl, rfl⟩, ⟨rfl, rfl⟩, ⟨ak (by omega), rfl⟩, trivial⟩ ⟨⟨rfl, rfl⟩, trivial⟩⟩
     rw [key]; rfl
 . obtain rfl : k = w.zones.length := by simp at g1; omega
   rw [List.take_length]
   rcases h3 with rfl | rfl
   . rw [show foundB s home w.zones = true from h2]
     conv => whnf
     repeat' (first | (refine ab (fun h => ?_) (fun h => ?_) <;> (rw [h]; conv => whnf)) | fail)
     all_goals first
      | exact ae rfl rfl
      | (exfalso; simp_all; done)
   . rw [show foundB s home w.zones = false from h2]
     conv => whnf
     repeat' (first | (refine ab (fun h => ?_) (fun h => ?_) <;> (rw [h]; conv => whnf)) | fail)
     all_goals first
      | exact ae rfl rfl
      | (exfalso; simp_all; done)
end Go.Proofs.YtnbnldnfkikakaaGreatDoor
