/-
  Reference 01 on plain data: Label, Split, Parts, Glue, Join.
-/
import Derived.Test.YtnbnldnfkikakaaGreatDoorMNh
import Derived.Test.YtnbnldnfkikakaaGreatDoorMVa
import Derived.Test.YtnbnldnfkikakaaGreatDoorMQt
set_option linter.all false
set_option maxRecDepth 100000
namespace NP
open NQ Go
theorem ql (x : Bs) : ∀ l : List Bs, l ≠ [] -> ba (l ++ [x]) = ba l ++ 46 :: x
 | [], h => absurd rfl h
 | [y], _ => by simp [ba]
 | y :: z :: t, _ => by
  have := ql x (z :: t) (by simp)
  rw [List.cons_append, cV _ _ (by simp), this, cV y (z :: t) (by simp), List.append_assoc]
  rfl
theorem rV (m : Nat) : ∀ l : List Bs, (∀ x ∈ l, x.length <= m) -> (ba l).length <= l.length * (m + 1)
 | [], _ => by simp [ba]
 | [y], h => by have := h y (by simp); simp [ba]; omega
 | y :: z :: t, h => by
  have h1 := h y (by simp)
  have h2 := rV m (z :: t) fun x hx => h x (List.mem_cons_of_mem _ hx)
  rw [cV _ _ (by simp), List.length_append, List.length_cons, List.length_cons, Nat.add_mul]
  omega
theorem vU {l : List Bs} (h : l ≠ []) : nameOf l = ba l := by unfold nameOf; rw [if_neg h]
theorem GA {n : Nat} (h1 : 1 <= n) (h2 : n <= 4611686018427387904) : IntKind.i64.wrap ((n : Int) - 1) = ((n - 1 : Nat) : Int) := by
 rw [wrap_i64 (by omega) (by omega)]; omega
theorem Gk {s : Bs} {k : Nat} {c : UInt8} (hk : s[k]? = some c) : ((s.drop ((k : Nat) : Int).toNat).take (((k : Int) + 1).toNat - ((k : Nat) : Int).toNat)) = [c] := by
 have hlt := (List.getElem?_eq_some_iff.1 hk).1
 rw [show ((k : Nat) : Int).toNat = k by simp, show ((k : Int) + 1).toNat - k = 1 by omega, List.drop_eq_getElem_cons hlt, (List.getElem?_eq_some_iff.1 hk).2]
 simp
end NP
namespace Go.Proofs.YtnbnldnfkikakaaGreatDoor
open NQ Go NP Go.RowKit
theorem CD (s : Bs) (hs : s.length <= 1000000) : NQ.Fn cx 74 [.str s] (.d (.bool (aI s))) [] := by
 refine bM ⟨_, Tryz.func74, by kernel_rfl, by kernel_rfl⟩ rfl fun w vs _ hsz hrep => ?_
 obtain ⟨b, hb, rfl⟩ := cg (hrep 0 _ rfl)
 rw [mu hsz, hb]
 exact (jn b (by have : (S b).length = b.size := aN b; have hs' : (S b).length <= 1000000 := hs; omega) w).mono fun e w' ⟨he, hbel⟩ => ⟨_, he, hbel ▸ Below.refl _ _, .cW _⟩
theorem Et (s : Bs) (hs : s.length <= 100000) : NQ.Fn cx 73 [.str s] (.d (.slice 1 ((au s).map aD))) [] := by
 refine cM (fun _ => []) aB mixed Tryz.func73 (by kernel_rfl) rfl (Nat.le_of_ble_eq_true rfl) ?_
 conv => whnf
 refine ⟨Nat, fun k => ⟨[(0, .d (.str s)), (3, .own 5), (4, .d (.int .i64 k))], [(5, .row 9 1 ((au (s.take k)).map aD))]⟩, fun k => k <= s.length, fun k => s.length - k,
  ⟨0, by omega, ah.keep ⟨⟨rfl, rfl⟩, ⟨rfl, rfl⟩, ⟨rfl, rfl⟩, trivial⟩ ⟨⟨rfl, rfl⟩, trivial⟩⟩, fun k hk => ?_⟩
 conv => whnf
 refine ab (fun h1 => ?_) (fun h1 => ?_) <;> (rw [h1]; conv => whnf)
 . have hlt : k < s.length := by simp at h1; omega
   obtain ⟨c, hc⟩ : ∃ c, s[k]? = some c := ⟨_, List.getElem?_eq_getElem hlt⟩
   have hlen := eQ (s.take k)
   rw [List.length_take] at hlen
   have hne := dt (s.take k)
   have hpos : 1 <= (au (s.take k)).length := by cases hx : au (s.take k) with | nil => exact absurd hx hne | cons => simp
   refine ⟨Int.natCast_nonneg k, c, by simpa using hc, ?_⟩
   conv => whnf
   refine ab (fun hd => ?_) (fun hd => ?_) <;> (rw [hd]; conv => whnf)
   . have hc46 : c = 46 := UInt8.toNat_inj.1 (by simp at hd; exact Int.ofNat_inj.1 hd)
     refine ⟨by (show ((au (s.take k)).map aD).length + 1 <= _; rw [List.length_map]; omega), by (show (((au (s.take k)).map aD).length + 1) * 16 <= _; rw [List.length_map]; omega), ?_⟩
     conv => whnf
     refine ⟨k + 1, hlt, by (show s.length - (k + 1) < s.length - k; omega), ah.keep ⟨⟨rfl, rfl⟩, ⟨rfl, rfl⟩, ⟨ak (by omega), rfl⟩, trivial⟩ ⟨⟨?_, rfl⟩, trivial⟩⟩
     rw [bw hc, hc46, qC, List.map_append]
     show some (Blk.row _ _ (_ ++ _)) = _
     rfl
   . have hc46 : c ≠ 46 := fun e => by subst e; simp at hd
     obtain ⟨p, x, hp1, hp2⟩ := oq (s.take k) c hc46
     rw [<- bw hc] at hp2
     have hl : (au (s.take k)).length = p.length + 1 := by rw [hp1]; simp
     have hw : IntKind.i64.wrap ((((au (s.take k)).map aD).length : Int) - 1) = ((p.length : Nat) : Int) := by
      rw [List.length_map, hl, GA (by omega) (by omega)]; rfl
     have hxl : x.length <= s.length := by
      have := jb (s.take k) x (by rw [hp1]; simp)
      rw [List.length_take] at this; omega
     have hget : ((au (s.take k)).map aD)[p.length]? = some (aD x) := by rw [hp1]; simp
     (refine ⟨(by kernel_rfl : aO _ _ = true), ?_⟩; conv => whnf)
     rw [hw]
     refine ⟨Int.natCast_nonneg _, by (rw [List.length_map, hl]; simp), ?_⟩
     conv => whnf
     refine ⟨aD x, hget, ?_⟩
     conv => whnf
     rw [wrap_i64 (n := (k : Int) + 1) (by omega) (by omega)]
     refine ⟨Int.natCast_nonneg _, by omega, by omega, ?_⟩
     conv => whnf
     rw [Gk hc]
     refine ⟨by simp; omega, ?_⟩
     conv => whnf
     refine ⟨Int.natCast_nonneg _, by (rw [List.length_map, hl]; simp), ?_⟩
     conv => whnf
     refine ⟨aD x, hget, ?_⟩
     conv => whnf
     refine ⟨k + 1, hlt, by (show s.length - (k + 1) < s.length - k; omega), ah.keep ⟨⟨rfl, rfl⟩, ⟨rfl, rfl⟩, ⟨ak (by omega), rfl⟩, trivial⟩ ⟨⟨?_, rfl⟩, trivial⟩⟩
     rw [hp2]
     have e : ((au (s.take k)).map aD).set p.length (aD (x ++ [c])) = (p ++ [x ++ [c]]).map aD := by
      rw [hp1, List.map_append, List.set_append_right _ _ (by simp), List.length_map, Nat.sub_self, List.map_append]; rfl
     rw [<- e]
     rfl
 . obtain rfl : k = s.length := by simp at h1; omega
   refine ae rfl ?_
   rw [List.take_length]; rfl
theorem xn (s : Bs) (hs : s.length <= 100000) : NQ.Fn cx 72 [.str s] (.d (.slice 1 ((az s).map aD))) [] := by
 refine ar aB mixed Tryz.func72 (by kernel_rfl) rfl (Nat.le_of_ble_eq_true rfl) ?_; conv => whnf
 (refine ab (fun h => ?_) (fun h => ?_) <;> (rw [h]; conv => whnf))
 . have e : s = [46] := by simpa using h
   refine ae rfl ?_
   unfold az; rw [if_pos e]; rfl
 . have e : s ≠ [46] := by simpa using h
   (refine ⟨_, _, Et s hs, ?_⟩; conv => whnf)
   refine ae rfl ?_
   unfold az; rw [if_neg e]; rfl
theorem Am (l : List Bs) (hl : l.length <= 1000) (hs : ∀ x ∈ l, x.length <= 100000) : NQ.Fn cx 174 [.slice 1 (l.map aD)] (.d (.str (nameOf l))) [] := by
 refine ar aB mixed Tryz.func174 (by kernel_rfl) rfl (Nat.le_of_ble_eq_true rfl) ?_; conv => whnf
 (refine ab (fun h => ?_) (fun h => ?_) <;> (rw [h]; conv => whnf))
 . have e : l = [] := by cases l with | nil => rfl | cons x t => (simp at h; omega)
   subst e
   exact ae rfl rfl
 . have e : l ≠ [] := fun e => by subst e; simp at h
   obtain ⟨x0, t, rfl⟩ : ∃ x t, l = x :: t := by cases l with | nil => exact absurd rfl e | cons x t => exact ⟨x, t, rfl⟩
   refine ⟨by decide, aD x0, rfl, ?_⟩
   conv => whnf
   refine ⟨Nat, fun k => ⟨[(0, .d (.slice 1 ((x0 :: t).map aD))), (3, .d (.str (ba ((x0 :: t).take k)))), (4, .d (.int .i64 k))], []⟩, fun k => 1 <= k /\ k <= (x0 :: t).length, fun k => (x0 :: t).length - k,
    ⟨1, ⟨by omega, by simp⟩, ah.keep ⟨⟨rfl, rfl⟩, ⟨rfl, rfl⟩, ⟨rfl, rfl⟩, trivial⟩ trivial⟩, fun k ⟨hk1, hk⟩ => ?_⟩
   conv => whnf
   refine ab (fun h1 => ?_) (fun h1 => ?_) <;> (rw [h1]; conv => whnf)
   . have hlt : k < (x0 :: t).length := by simp at h1 ⊢; omega
     obtain ⟨c, hc⟩ : ∃ c, (x0 :: t)[k]? = some c := ⟨_, List.getElem?_eq_getElem hlt⟩
     have hcl := hs c (List.mem_of_getElem? hc)
     have hjl := rV 100000 ((x0 :: t).take k) fun x hx => hs x (List.mem_of_mem_take hx)
     rw [List.length_take] at hjl
     have hjl2 : (ba ((x0 :: t).take k)).length <= 1000 * (100000 + 1) := Nat.le_trans hjl (Nat.mul_le_mul_right _ (Nat.le_trans (Nat.min_le_right _ _) hl))
     refine ⟨by (show (ba ((x0 :: t).take k)).length + 1 <= _; omega), ?_⟩
     conv => whnf
     refine ⟨Int.natCast_nonneg k, aD c, ay hc, ?_⟩
     conv => whnf
     refine ⟨by (show (ba ((x0 :: t).take k) ++ [46]).length + c.length <= _; simp; omega), ?_⟩
     conv => whnf
     refine ⟨k + 1, ⟨by omega, hlt⟩, by (show (x0 :: t).length - (k + 1) < (x0 :: t).length - k; omega), ah.keep ⟨⟨rfl, rfl⟩, ⟨?_, rfl⟩, ⟨ak (by omega), rfl⟩, trivial⟩ trivial⟩
     rw [bw hc, ql c _ (by cases k with | zero => omega | succ k => simp)]
     show AV.d (D.str ((_ ++ [46]) ++ c)) = _
     simp
   . have hkk : k = (x0 :: t).length := by simp at h1 hk ⊢; omega
     refine ae rfl ?_
     rw [hkk, List.take_length, vU (by simp)]; rfl
theorem Ep (l : List Bs) (hl : l.length <= 1000) (hs : ∀ x ∈ l, x.length <= 100000) : NQ.Fn cx 173 [.slice 1 (l.map aD)] (.tuple [.d (.str (bB l).1), .d (.int .i64 (bB l).2)]) [] := by
 refine ar aB mixed Tryz.func173 (by kernel_rfl) rfl (Nat.le_of_ble_eq_true rfl) ?_; conv => whnf
 refine ⟨Nat, fun k => ⟨[(0, .d (.slice 1 (l.map aD))), (4, .d (.int .i64 k))], []⟩, fun k => k <= l.length /\ o7 l k, fun k => l.length - k,
  ⟨0, ⟨by omega, um l⟩, ah.keep ⟨⟨rfl, rfl⟩, ⟨rfl, rfl⟩, trivial⟩ trivial⟩, fun k ⟨hk, hgood⟩ => ?_⟩
 conv => whnf
 refine ab (fun h1 => ?_) (fun h1 => ?_) <;> (rw [h1]; conv => whnf)
 . have hlt : k < l.length := by simp at h1; omega
   obtain ⟨c, hc⟩ : ∃ c, l[k]? = some c := ⟨_, List.getElem?_eq_getElem hlt⟩
   have hcl := hs c (List.mem_of_getElem? hc)
   have bad : aI c = false -> ¬ (k = 0 /\ c = [42]) -> bB l = ([], 11) := fun h2 h3 => by
    unfold bB; rw [vf hc h2 h3, if_neg (by simp)]
   have go : (aI c = true \/ (k = 0 /\ c = [42])) -> ∀ st, ah cx st ⟨[(0, .d (.slice 1 (l.map aD))), (4, .d (.int .i64 ((k + 1 : Nat) : Int)))], []⟩ -> ∃ y : Nat, (y <= l.length /\ o7 l y) /\ l.length - y < l.length - k /\ ah cx st ⟨[(0, .d (.slice 1 (l.map aD))), (4, .d (.int .i64 y))], []⟩ :=
    fun hg st hw => ⟨k + 1, ⟨hlt, o8 hgood hc hg⟩, by omega, hw⟩
   refine ⟨Int.natCast_nonneg k, aD c, ay hc, ?_⟩
   conv => whnf
   (refine ⟨_, _, CD c (by omega), ?_⟩; conv => whnf)
   refine ab (fun hlab => ?_) (fun hlab => ?_) <;> (rw [hlab]; conv => whnf)
   . have hlab : aI c = false := by simpa using hlab
     refine ab (fun hk0 => ?_) (fun hk0 => ?_) <;> (rw [hk0]; conv => whnf)
     . refine ae rfl ?_
       rw [bad hlab (fun e => by rw [e.1] at hk0; simp at hk0)]; rfl
     . have hk00 : k = 0 := by simp at hk0; omega
       refine ⟨Int.natCast_nonneg k, aD c, ay hc, ?_⟩
       conv => whnf
       refine ab (fun hst => ?_) (fun hst => ?_) <;> (rw [hst]; conv => whnf)
       . refine ae rfl ?_
         rw [bad hlab (fun e => by rw [e.2] at hst; simp at hst)]; rfl
       . exact go (.inr ⟨hk00, by simpa using hst⟩) _ (ah.keep ⟨⟨rfl, rfl⟩, ⟨ak (by omega), rfl⟩, trivial⟩ trivial)
   . exact go (.inl (by simpa using hlab)) _ (ah.keep ⟨⟨rfl, rfl⟩, ⟨ak (by omega), rfl⟩, trivial⟩ trivial)
 . obtain rfl : k = l.length := by simp at h1; omega
   have hok := wc hgood
   (refine ⟨_, _, Am l hl hs, ?_⟩; conv => whnf)
   refine ab (fun h8 => ?_) (fun h8 => ?_) <;> (rw [h8]; conv => whnf)
   . refine ae rfl ?_
     have : bB l = ([], 11) := by
      unfold bB; rw [hok, if_neg]
      rintro ⟨h2, _⟩; simp at h8 h2; omega
     rw [this]; rfl
   . refine ab (fun h60 => ?_) (fun h60 => ?_) <;> (rw [h60]; conv => whnf)
     . refine ae rfl ?_
       have : bB l = ([], 11) := by
        unfold bB; rw [hok, if_neg]
        rintro ⟨_, h2⟩; simp at h60 h2; omega
       rw [this]; rfl
     . refine ae rfl ?_
       have : bB l = (nameOf l, 0) := by
        unfold bB; rw [hok, if_pos]
        simp at h8 h60 ⊢; omega
       rw [this]; rfl
end Go.Proofs.YtnbnldnfkikakaaGreatDoor
