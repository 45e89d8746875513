/-
  Texts of the proof, merged in build order.
-/
import Derived.Test.YtnbnldnfkikakaaGreatDoorMGja
import Derived.Test.YtnbnldnfkikakaaGreatDoorMQr
set_option linter.all false
set_option maxRecDepth 100000
namespace NP
open NQ Go
theorem copiesGo_iff {n : Nat} : ∀ (l seen : List ai), de n seen l = true ↔ ((∀ p ∈ l, ((decide (p.host < 0) || decide (p.host >= (n : Int)) || !aQ p.zone) = false) /\ seen.any (cF p) = false) /\ l.Pairwise (fun x p => cF p x = false))
 | [], seen => by simp [de]
 | x :: t, seen => by
  rw [de, Bool.and_eq_true, copiesGo_iff t, List.pairwise_cons]
  simp only [List.any_append, List.any_cons, List.any_nil, Bool.or_false, Bool.not_eq_true', List.mem_cons, forall_eq_or_imp]
  constructor
  . rintro ⟨h1, h2, h3⟩
    simp only [Bool.or_eq_false_iff] at h1 h2 ⊢
    exact ⟨⟨⟨⟨h1.1.1, h1.2⟩, h1.1.2⟩, fun p hp => ⟨(h2 p hp).1, (h2 p hp).2.1⟩⟩, fun p hp => (h2 p hp).2.2, h3⟩
  . rintro ⟨⟨h1, h2⟩, h3, h4⟩
    simp only [Bool.or_eq_false_iff] at h1 h2 ⊢
    exact ⟨⟨⟨h1.1.1, h1.2⟩, h1.1.2⟩, fun p hp => ⟨(h2 p hp).1, (h2 p hp).2, h3 p hp⟩, h4⟩
theorem mA.sub {w : bt} (h : mA w) {l : List ai} (hs : l.Sublist w.zones) : mA (JB w l) :=
 ⟨h.hosts, Nat.le_trans hs.length_le h.zones, h.hints, fun p hp => h.few p (hs.subset hp)⟩
end NP
namespace Go.Proofs.YtnbnldnfkikakaaGreatDoor
open NQ Go NP Go.RowKit
end Go.Proofs.YtnbnldnfkikakaaGreatDoor

set_option maxRecDepth 100000
namespace NP
open NQ Go
theorem hostsGo_facts : ∀ (l : List jA) (seen : List Int), gS seen l = true -> (∀ h ∈ l, seen.contains h.addr = false /\ h.owner < 32) /\ (l.map (·.addr)).Nodup
 | [], seen, _ => ⟨fun h hh => (by cases hh), List.nodup_nil⟩
 | x :: t, seen, h => by
  unfold gS at h
  simp only [Bool.and_eq_true, Bool.not_eq_true', Bool.or_eq_false_iff, decide_eq_false_iff_not] at h
  obtain ⟨⟨h1, h2⟩, h3⟩ := h
  obtain ⟨g1, g2⟩ := hostsGo_facts t _ h3
  refine ⟨fun y hy => ?_, ?_⟩
  . rcases List.mem_cons.1 hy with rfl | hy
    . exact ⟨h2.2, by omega⟩
    . have := (g1 y hy).1
      refine ⟨?_, (g1 y hy).2⟩
      rw [Bool.eq_false_iff] at this ⊢
      intro e
      apply this
      rw [List.contains_iff_mem] at e ⊢
      exact List.mem_append.2 (.inl e)
  . rw [List.map_cons, List.nodup_cons]
    refine ⟨fun e => ?_, g2⟩
    obtain ⟨y, hy, ey⟩ := List.mem_map.1 e
    have := (g1 y hy).1
    rw [Bool.eq_false_iff] at this
    apply this
    rw [List.contains_iff_mem]
    exact List.mem_append.2 (.inr (by rw [List.mem_singleton]; exact ey))
theorem bad_hosts {w : bt} (h : gS [] w.hosts = false) : bC w = false := by unfold bC jt; rw [h]; simp
theorem bad_copies {w : bt} (h : de w.hosts.length [] w.zones = false) : bC w = false := by unfold bC iN; rw [h]; simp
theorem bad_root {w : bt} (h : ln w.anchor w.hints = false) : bC w = false := by unfold bC; rw [h]; simp
theorem host_twice {l : List jA} {x : jA} (hx : x ∈ l) : gS [] (l ++ [x]) = false := by
 rw [<- Bool.not_eq_true]
 intro h
 have := (hostsGo_facts _ _ h).2
 rw [List.map_append, List.nodup_append] at this
 exact this.2.2 x.addr (List.mem_map.2 ⟨x, hx, rfl⟩) x.addr (by simp) rfl
theorem host_owner {l : List jA} {x : jA} (hx : x ∈ l) (h32 : x.owner = 32) : gS [] l = false := by
 rw [<- Bool.not_eq_true]
 intro h
 have := ((hostsGo_facts _ _ h).1 x hx).2
 omega
theorem copy_twice {n : Nat} {l : List ai} {x : ai} (hx : x ∈ l) : de n [] (l ++ [x]) = false := by
 rw [<- Bool.not_eq_true]
 intro h
 rw [copiesGo_iff, List.pairwise_append] at h
 have := h.2.2.2 x hx x (by simp)
 unfold cF at this; simp at this
theorem copy_far {n : Nat} {l : List ai} {x : ai} (hx : x ∈ l) (hh : x.host = n) : de n [] l = false := by
 rw [<- Bool.not_eq_true]
 intro h
 rw [copiesGo_iff] at h
 have := (h.1 x hx).1
 simp only [Bool.or_eq_false_iff, decide_eq_false_iff_not] at this
 omega
end NP
namespace Go.Proofs.YtnbnldnfkikakaaGreatDoor
open NQ Go NP Go.RowKit
theorem rem16_val {t : TypeId} (a b : Int) (hb : b ≠ 0) : EH cx .rem t (.d (.int .i64 a)) (.d (.int .i64 b)) = some (.d (.int .i64 (a.tmod b))) := by
 show (match lA .rem .i64 a b with | some r => some (AV.d r) | none => none) = _
 unfold lA
 rw [decide_eq_false hb]
theorem u8_16 {n : Int} (h : (Lit.int .u8 n).wf = true) : 0 <= n /\ n <= 255 := by
 simp [Lit.wf, IntKind.min, IntKind.max, IntKind.signed, IntKind.bits] at h
 omega
def fzD : Nat -> List Nat
 | 7 => [55555]
 | 8 => [55555]
 | 9 => [66666]
 | 11 => [66666]
 | 21 => [55555]
 | _ => []
theorem ah.frz16 {cx : Cx} {st : St} (l : List Nat) : ah cx st (st.aU l) := fun _ _ _ h => h.aU l
def stD (b : bt) (q : ax) (hc : AV) : St := ⟨[(7, .ptr 7 0), (9, .d (.bool true)), (10, .ptr 10 0)], [(7, .box ((bA q).map .d)), (10, .box (((bH b).take 6).map .d ++ [hc]))]⟩
theorem damage_tail (b : bt) (q : ax) (hb : bC b = false) (hF : mA b) (hh : 0 < b.hosts.length) (hc : AV) (hhc : hc = .d (.slice 1 (b.hints.map cn)) \/ (hc = .nil 1 /\ b.hints = [])) (st : St) (hs : ah cx st (stD b q hc)) :
 vc cx Tryz.f8.ntmps fzD (pf 8 ((Tryz.f8.body).getD .skip)) (fnQ cx Tryz.f8.results.toList (.d (.bool true)) []) st := by
 have fT := za b q hF
 have fV := Eh b hF
 have fH := ym b q.name hF
 have e1 : iG b q = (dX, 1) := by unfold iG; rw [if_pos (by rw [hb]; rfl)]
 have e2 : ∀ a, j7 b a q = (dX, 1) := fun a => by unfold j7; rw [if_pos (by rw [hb]; rfl)]
 have e3 : ic (bC b) b q.name = ([], 1) := by unfold ic; rw [if_pos (by rw [hb]; rfl)]
 rw [e1] at fT
 rw [e3] at fH
 rw [hb] at fV
 obtain ⟨h0, hh0⟩ : ∃ h, b.hosts[0]? = some h := ⟨_, List.getElem?_eq_getElem hh⟩
 have fA := xz b h0.addr q hF
 rw [e2] at fA
 rcases hhc with rfl | ⟨rfl, hn⟩
 . conv => whnf
   refine ⟨_, hs, ?_⟩
   conv => whnf
   (refine ⟨_, _, fT, ?_⟩; conv => whnf)
   (refine ⟨(by kernel_rfl : aO _ _ = true), ?_⟩; conv => whnf)
   refine ⟨by decide, dL h0, ay hh0, ?_⟩
   conv => whnf
   (refine ⟨_, _, fA, ?_⟩; conv => whnf)
   (refine ⟨_, _, fH, ?_⟩; conv => whnf)
   (refine ⟨_, _, fV, ?_⟩; conv => whnf)
   exact ae rfl rfl
 . have eW : bH b = [.slice 3 (b.hosts.map dL), .slice 3 (b.zones.map aR), .str b.anchor.name, .int .i64 b.anchor.type, .int .i64 b.anchor.life, .slice 3 (b.anchor.data.map bG), .slice 1 []] := by
    unfold bH; rw [hn]; rfl
   rw [eW] at fT fV fH fA
   conv => whnf
   refine ⟨_, hs, ?_⟩
   conv => whnf
   (refine ⟨_, _, fT, ?_⟩; conv => whnf)
   (refine ⟨(by kernel_rfl : aO _ _ = true), ?_⟩; conv => whnf)
   refine ⟨by decide, dL h0, ay hh0, ?_⟩
   conv => whnf
   (refine ⟨_, _, fA, ?_⟩; conv => whnf)
   (refine ⟨_, _, fH, ?_⟩; conv => whnf)
   (refine ⟨_, _, fV, ?_⟩; conv => whnf)
   exact ae rfl rfl
def stB (w : bt) (q : ax) (wh ho : Nat) : St := ⟨[(1, .d (.int .u8 wh)), (2, .d (.int .u8 ho)), (7, .ptr 7 0), (9, .d (.bool true)), (10, .ptr 10 0)],
 [(7, .box ((bA q).map .d)), (10, .box [.own 37, .own 42, .d (.str w.anchor.name), .d (.int .i64 w.anchor.type), .d (.int .i64 w.anchor.life), .d (.slice 3 (w.anchor.data.map bG)), .d (.slice 1 (w.hints.map cn))]), (37, .row 51 3 (w.hosts.map dL)), (42, .row 49 3 (w.zones.map aR))]⟩
def stC (w : bt) (q : ax) (wh ho : Nat) (p : ai) : St := ⟨(11, .ptr 11 0) :: (stB w q wh ho).slots, (11, .box ((aR p).map .d)) :: (stB w q wh ho).heap⟩
set_option maxHeartbeats 2000000 in
theorem worldDamage_fn (w : bt) (which : Int) (hw : (Lit.int .u8 which).wf = true) (how : Int) (hh : (Lit.int .u8 how).wf = true) (q : ax) : NQ.Fn cx 8 [.agg (bH w), .int .u8 which, .int .u8 how, .agg (bA q)] (.d (.bool true)) [] := by
 obtain ⟨wh, rfl⟩ : ∃ n : Nat, which = n := ⟨which.toNat, by have := (u8_16 hw).1; omega⟩
 obtain ⟨ho, rfl⟩ : ∃ n : Nat, how = n := ⟨how.toNat, by have := (u8_16 hh).1; omega⟩
 have hw2 : wh <= 255 := by have := (u8_16 hw).2; omega
 have hh2 : ho <= 255 := by have := (u8_16 hh).2; omega
 have fU := Ji w q
 cases hu : (kM w && bC w && aP q) with
 | false =>
  rw [hu] at fU
  refine cM fzD aB mixed Tryz.func8 (by kernel_rfl) rfl (Nat.le_of_ble_eq_true rfl) ?_
  conv => whnf
  (refine ⟨_, _, JE, ?_⟩; conv => whnf)
  (refine ⟨_, _, fU, ?_⟩; conv => whnf)
  exact ae rfl rfl
 | true =>
 rw [hu] at fU
 simp only [Bool.and_eq_true] at hu
 obtain ⟨⟨hfew, hval⟩, hq⟩ := hu
 obtain ⟨hF, hn1, hn2, hn3⟩ := Fj hfew
 refine cM fzD aB mixed Tryz.func8 (by kernel_rfl) rfl (Nat.le_of_ble_eq_true rfl) ?_
 conv => whnf
 (refine ⟨_, _, JE, ?_⟩; conv => whnf)
 (refine ⟨_, _, fU, ?_⟩; conv => whnf)
 refine ab (fun g1 => ?_) (fun g1 => ?_) <;> (rw [g1]; conv => whnf)
 . exact ae rfl rfl
 refine ab (fun g2 => ?_) (fun g2 => ?_) <;> (rw [g2]; conv => whnf)
 . exact ae rfl rfl
 have hz : 0 < w.zones.length := by
  rcases Nat.eq_zero_or_pos w.zones.length with e | e
  . exfalso
    have : (((w.zones.map aR).length : Int) == 0) = true := by rw [List.length_map, e]; rfl
    exact absurd (this.symm.trans g1) (by simp)
  . exact e
 have hy : 0 < w.hosts.length := by
  rcases Nat.eq_zero_or_pos w.hosts.length with e | e
  . exfalso
    have : (((w.hosts.map dL).length : Int) == 0) = true := by rw [List.length_map, e]; rfl
    exact absurd (this.symm.trans g2) (by simp)
  . exact e
 refine ⟨by (show 0 + (w.hosts.map dL).length <= _); rw [List.length_map]; omega, by (show (0 + (w.hosts.map dL).length) * 32 <= _); rw [List.length_map]; omega, ?_⟩
 conv => whnf
 refine ⟨by (show 0 + (w.zones.map aR).length <= _); rw [List.length_map]; omega, by (show (0 + (w.zones.map aR).length) * 48 <= _); rw [List.length_map]; omega, ?_⟩
 conv => whnf
 refine ⟨stB w q wh ho, ah.keep ⟨⟨rfl, rfl⟩, ⟨rfl, rfl⟩, ⟨rfl, rfl⟩, ⟨rfl, rfl⟩, ⟨rfl, rfl⟩, trivial⟩ ⟨⟨rfl, rfl⟩, ⟨rfl, rfl⟩, ⟨rfl, rfl⟩, ⟨rfl, rfl⟩, trivial⟩, ?_⟩
 conv => whnf
 (refine ⟨(by kernel_rfl : aO _ _ = true), ?_⟩; conv => whnf)
 obtain ⟨K, hK⟩ : ∃ K, K = wh % w.zones.length := ⟨_, rfl⟩
 have hKl : K < w.zones.length := by rw [hK]; exact Nat.mod_lt _ hz
 have ew : IntKind.i64.wrap (wh : Int) = (wh : Int) := wrap_i64 (by omega) (by omega)
 have er := rem16_val (t := 3) (IntKind.i64.wrap (wh : Int)) (((w.zones.map aR).length : Nat) : Int) (by rw [List.length_map]; omega)
 have ek : (IntKind.i64.wrap (wh : Int)).tmod (((w.zones.map aR).length : Nat) : Int) = (K : Int) := by
  rw [ew, List.length_map, Int.tmod_eq_emod_of_nonneg (by omega), hK]; rfl
 rw [ek] at er
 split
 case h_2 hb => exact absurd (hb.symm.trans er) (by simp)
 case h_1 hb =>
 cases hb.symm.trans er
 conv => whnf
 obtain ⟨p, hp⟩ : ∃ p, w.zones[K]? = some p := ⟨_, List.getElem?_eq_getElem hKl⟩
 have hpm := List.mem_of_getElem? hp
 refine ⟨Int.natCast_nonneg K, by (show K < (w.zones.map aR).length); rw [List.length_map]; exact hKl, ?_⟩
 conv => whnf
 refine ⟨aR p, ay hp, ?_⟩
 conv => whnf
 refine ⟨stC w q wh ho p, ah.keep ⟨⟨rfl, rfl⟩, ⟨rfl, rfl⟩, ⟨rfl, rfl⟩, ⟨rfl, rfl⟩, ⟨rfl, rfl⟩, ⟨rfl, rfl⟩, trivial⟩ ⟨⟨rfl, rfl⟩, ⟨rfl, rfl⟩, ⟨rfl, rfl⟩, ⟨rfl, rfl⟩, ⟨rfl, rfl⟩, trivial⟩, ?_⟩
 conv => whnf
 have em : (ho : Int).tmod 6 = ((ho % 6 : Nat) : Int) := by rw [Int.tmod_eq_emod_of_nonneg (by omega)]; rfl
 rw [em]
 have hm6 : ho % 6 < 6 := Nat.mod_lt _ (by decide)
 generalize ho % 6 = m at hm6
 have few : ∀ (zs : List ai), (∀ x ∈ zs, dj x.zone = true) -> ∀ (hs : List jA), hs.length <= 100 -> zs.length <= 100 -> ∀ a (hi : List Int), hi.length <= 20 -> mA ⟨hs, zs, a, hi⟩ := fun zs h hs h1 h2 a hi h3 => ⟨by show hs.length <= _; omega, by show zs.length <= _; omega, by show hi.length <= _; omega, h⟩
 have fewP : ∀ (x : ai), x.zone = p.zone -> ∀ y ∈ w.zones ++ [x], dj y.zone = true := fun x hx y hy => by
  rcases List.mem_append.1 hy with hy | hy
  . exact hF.few y hy
  . rw [List.mem_singleton] at hy; subst hy; rw [hx]; exact hF.few p hpm
 obtain ⟨J, hJ⟩ : ∃ J, J = wh % w.hosts.length := ⟨_, rfl⟩
 have hJl : J < w.hosts.length := by rw [hJ]; exact Nat.mod_lt _ hy
 have er2 := rem16_val (t := 3) (IntKind.i64.wrap (wh : Int)) (((w.hosts.map dL).length : Nat) : Int) (by rw [List.length_map]; omega)
 have ek2 : (IntKind.i64.wrap (wh : Int)).tmod (((w.hosts.map dL).length : Nat) : Int) = (J : Int) := by
  rw [ew, List.length_map, Int.tmod_eq_emod_of_nonneg (by omega), hJ]; rfl
 rw [ek2] at er2
 obtain ⟨x, hx⟩ : ∃ x, w.hosts[J]? = some x := ⟨_, List.getElem?_eq_getElem hJl⟩
 have hxm := List.mem_of_getElem? hx
 rcases m with _ | _ | _ | _ | _ | _ | m
 . conv => whnf
   (refine ⟨(by kernel_rfl : iM _ = true), ?_⟩; conv => whnf)
   split
   case h_2 hb => exact absurd (hb.symm.trans er2) (by simp)
   case h_1 hb =>
   cases hb.symm.trans er2
   conv => whnf
   refine ⟨Int.natCast_nonneg J, by (show J < (w.hosts.map dL).length); rw [List.length_map]; exact hJl, ?_⟩
   conv => whnf
   refine ⟨dL x, ay hx, ?_⟩
   conv => whnf
   repeat' (first
    | (refine ⟨by (show (w.hosts.map dL).length + 1 <= _); rw [List.length_map]; omega, by (show ((w.hosts.map dL).length + 1) * 32 <= _); rw [List.length_map]; omega, ?_⟩; conv => whnf)
    | (refine damage_tail ⟨w.hosts ++ [x], w.zones, w.anchor, w.hints⟩ q (bad_hosts (host_twice hxm)) (few _ hF.few (w.hosts ++ [x]) (by simp; omega) (by omega) _ _ (by omega)) (by simp) _ (.inl rfl) _ ((ah.frz16 [37, 42]).trans (ah.keep ⟨⟨rfl, rfl⟩, ⟨rfl, rfl⟩, ⟨rfl, rfl⟩, trivial⟩ ⟨⟨rfl, rfl⟩, ⟨?_, rfl⟩, trivial⟩))
       show some (Blk.box [.d (.slice 3 (w.hosts.map dL ++ [dL x])), _, _, _, _, _, _]) = some (Blk.box [.d (.slice 3 ((w.hosts ++ [x]).map dL)), _, _, _, _, _, _])
       rw [List.map_append]; rfl)
    | (refine ⟨by kernel_rfl, ?_⟩; conv => whnf)
    | (refine ⟨?_, ?_⟩ <;> (conv => whnf))
    | fail)
 . conv => whnf
   refine ⟨by (show (w.zones.map aR).length + 1 <= _); rw [List.length_map]; omega, by (show ((w.zones.map aR).length + 1) * 48 <= _); rw [List.length_map]; omega, ?_⟩
   conv => whnf
   refine damage_tail ⟨w.hosts, w.zones ++ [p], w.anchor, w.hints⟩ q (bad_copies (copy_twice hpm)) (few _ (fewP p rfl) w.hosts (by omega) (by simp; omega) _ _ (by omega)) hy _ (.inl rfl) _ ((ah.frz16 [37, 42]).trans (ah.keep ⟨⟨rfl, rfl⟩, ⟨rfl, rfl⟩, ⟨rfl, rfl⟩, trivial⟩ ⟨⟨rfl, rfl⟩, ⟨?_, rfl⟩, trivial⟩))
   show some (Blk.box [.d (.slice 3 (w.hosts.map dL)), .d (.slice 3 (w.zones.map aR ++ [aR p])), _, _, _, _, _]) = some (Blk.box [_, .d (.slice 3 ((w.zones ++ [p]).map aR)), _, _, _, _, _])
   rw [List.map_append]; rfl
 . conv => whnf
   refine ⟨by (show (w.zones.map aR).length + 1 <= _); rw [List.length_map]; omega, by (show ((w.zones.map aR).length + 1) * 48 <= _); rw [List.length_map]; omega, ?_⟩
   conv => whnf
   refine damage_tail ⟨w.hosts, w.zones ++ [(⟨((w.hosts.map dL).length : Nat), p.zone⟩ : ai)], w.anchor, w.hints⟩ q (bad_copies (copy_far (x := (⟨((w.hosts.map dL).length : Nat), p.zone⟩ : ai)) (by simp) (by show (((w.hosts.map dL).length : Nat) : Int) = (w.hosts.length : Nat); rw [List.length_map]))) (few _ (fewP (⟨((w.hosts.map dL).length : Nat), p.zone⟩ : ai) rfl) w.hosts (by omega) (by simp; omega) _ _ (by omega)) hy _ (.inl rfl) _ ((ah.frz16 [37, 42]).trans (ah.keep ⟨⟨rfl, rfl⟩, ⟨rfl, rfl⟩, ⟨rfl, rfl⟩, trivial⟩ ⟨⟨rfl, rfl⟩, ⟨?_, rfl⟩, trivial⟩))
   show some (Blk.box [.d (.slice 3 (w.hosts.map dL)), .d (.slice 3 (w.zones.map aR ++ [aR (⟨((w.hosts.map dL).length : Nat), p.zone⟩ : ai)])), _, _, _, _, _]) = some (Blk.box [_, .d (.slice 3 ((w.zones ++ [(⟨((w.hosts.map dL).length : Nat), p.zone⟩ : ai)]).map aR)), _, _, _, _, _])
   rw [List.map_append]; rfl
 . conv => whnf
   exact damage_tail ⟨w.hosts, w.zones, w.anchor, []⟩ q (bad_root (by unfold ln; simp)) (few _ hF.few w.hosts (by omega) (by omega) _ _ (by simp)) hy _ (.inr ⟨rfl, rfl⟩) _ ((ah.frz16 [37, 42]).trans (ah.keep ⟨⟨rfl, rfl⟩, ⟨rfl, rfl⟩, ⟨rfl, rfl⟩, trivial⟩ ⟨⟨rfl, rfl⟩, ⟨rfl, rfl⟩, trivial⟩))
 . conv => whnf
   exact damage_tail ⟨w.hosts, w.zones, ⟨[120], w.anchor.type, w.anchor.life, w.anchor.data⟩, w.hints⟩ q (bad_root (by unfold ln; simp)) (few _ hF.few w.hosts (by omega) (by omega) _ _ (by omega)) hy _ (.inl rfl) _ ((ah.frz16 [37, 42]).trans (ah.keep ⟨⟨rfl, rfl⟩, ⟨rfl, rfl⟩, ⟨rfl, rfl⟩, trivial⟩ ⟨⟨rfl, rfl⟩, ⟨rfl, rfl⟩, trivial⟩))
 . conv => whnf
   (refine ⟨(by kernel_rfl : iM _ = true), ?_⟩; conv => whnf)
   split
   case h_2 hb => exact absurd (hb.symm.trans er2) (by simp)
   case h_1 hb =>
   cases hb.symm.trans er2
   conv => whnf
   refine ⟨Int.natCast_nonneg J, by (show J < (w.hosts.map dL).length); rw [List.length_map]; exact hJl, ?_⟩
   conv => whnf
   refine ⟨dL x, ay hx, ?_⟩
   conv => whnf
   have hmem : (⟨x.name, x.addr, 32⟩ : jA) ∈ w.hosts.set J ⟨x.name, x.addr, 32⟩ := List.mem_of_getElem? (i := J) (List.getElem?_set_self hJl)
   repeat' (first
    | (refine damage_tail ⟨w.hosts.set J ⟨x.name, x.addr, 32⟩, w.zones, w.anchor, w.hints⟩ q (bad_hosts (host_owner hmem rfl)) (few _ hF.few (w.hosts.set J ⟨x.name, x.addr, 32⟩) (by rw [List.length_set]; omega) (by omega) _ _ (by omega)) (by show 0 < (w.hosts.set J ⟨x.name, x.addr, 32⟩).length; rw [List.length_set]; exact hy) _ (.inl rfl) _ ((ah.frz16 [37, 42]).trans (ah.keep ⟨⟨rfl, rfl⟩, ⟨rfl, rfl⟩, ⟨rfl, rfl⟩, trivial⟩ ⟨⟨rfl, rfl⟩, ⟨?_, rfl⟩, trivial⟩))
       show some (Blk.box [.d (.slice 3 ((w.hosts.map dL).set J (dL ⟨x.name, x.addr, 32⟩))), _, _, _, _, _, _]) = some (Blk.box [.d (.slice 3 ((w.hosts.set J ⟨x.name, x.addr, 32⟩).map dL)), _, _, _, _, _, _])
       rw [List.map_set]; rfl)
    | (refine ⟨by kernel_rfl, ?_⟩; conv => whnf)
    | (refine ⟨?_, ?_⟩ <;> (conv => whnf))
    | fail)
 . omega
end Go.Proofs.YtnbnldnfkikakaaGreatDoor
