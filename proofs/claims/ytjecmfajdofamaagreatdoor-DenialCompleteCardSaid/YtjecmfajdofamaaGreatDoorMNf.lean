/-
  Texts of the proof of the law DenialComplete, merged in build order.
-/
import Derived.Test.YtjecmfajdofamaaGreatDoorMNc
import Derived.Laws.EntriesVeiled
/-
  Contract of Compare.
-/
namespace NP
open Go Go.RowKit

theorem cmpList_app {α : Type} {cmp : α → α → Int} (h : Ord3 cmp) (p a b : List α) : cmpList cmp (p ++ a) (p ++ b) = cmpList cmp a b := by
  induction p with
  | nil => rfl
  | cons x p ih =>
    show cmpList cmp (x :: (p ++ a)) (x :: (p ++ b)) = _
    rw [cmpList, if_pos ((h.zero x x).2 rfl)]; exact ih

theorem cmp_more (p post : List Bs) (x : Bs) : cmpL (p ++ x :: post) p = 1 := by
  have := cmpList_app compareBytes_ord p (x :: post) []
  rw [List.append_nil] at this
  exact this
theorem cmp_here (p post t : List Bs) (x y : Bs) (h : Lib.compareBytes x y ≠ 0) : cmpL (p ++ x :: post) (p ++ y :: t) = Lib.compareBytes x y := by
  have := cmpList_app compareBytes_ord p (x :: post) (y :: t)
  unfold cmpL
  rw [this, cmpList, if_neg h]
theorem cmp_less (p : List Bs) (y : Bs) (t : List Bs) : cmpL p (p ++ y :: t) = -1 := by
  have := cmpList_app compareBytes_ord p [] (y :: t)
  rw [List.append_nil] at this
  exact this

/-- Two results in cells, behind a call. -/
theorem two_boxes {w w1 : World} {v u : Value} {t t' : TypeId} (hb : Below ((w.alloc (.cells #[v] t)).alloc (.cells #[u] t')).heap.size ((w.alloc (.cells #[v] t)).alloc (.cells #[u] t')) w1) :
    Boxed w1 w.heap.size t v ∧ Boxed w1 (w.heap.size + 1) t' u ∧ Below w.heap.size w w1 ∧ w.heap.size + 2 ≤ w1.heap.size := by
  have h1 := Boxed.new (w.alloc (.cells #[v] t)) t' u
  rw [World.size_alloc] at h1
  refine ⟨((Boxed.new w t v).alloc _).below hb (by simp; omega), h1.below hb (by simp), ?_, ?_⟩
  · exact (((Below.refl _ w).alloc (Nat.le_refl _) _).alloc (by simp) _).trans (hb.mono (by simp; omega))
  · have := hb.size; simp at this; omega

/-- Between two rounds. -/
def cI (ti te tf tb ts : TypeId) (w : World) (b0 b8 bm br : Nat) (fv : Value) (ls : List ByteArray) (pre : List ByteArray) (W : World) : Prop :=
  (∃ rest, ls = pre ++ rest ∧ Pull tb ts W bm br rest) ∧ (∃ v, Boxed W b0 ti v) ∧ (∃ v, Boxed W (b0 + 1) te v) ∧ Boxed W b8 tf fv ∧ Below w.heap.size w W
/-- A round has returned. -/
def cX (ti te : TypeId) (w : World) (b0 : Nat) (xs ls : List Bs) (c : Code) (_ : List ByteArray) (W : World) : Prop :=
  c = .ret ∧ Boxed W b0 ti (.int .i64 (cmpL xs ls)) ∧ Boxed W (b0 + 1) te (.int .i64 0) ∧ Below w.heap.size w W

theorem cI_kept {ti te tf tb ts : TypeId} {w : World} {b0 b8 bm br d : Nat} {fv : Value} {ls pre : List ByteArray} {A B : World} (h : cI ti te tf tb ts w b0 b8 bm br fv ls pre A)
    (hz : d + 2 ≤ A.heap.size) (hk : Kept2 d A B) (h0 : b0 + 1 < d) (h8 : b8 < d) (hm : bm < d) (hr : br < d) (hw : w.heap.size ≤ d) : cI ti te tf tb ts w b0 b8 bm br fv ls pre B := by
  obtain ⟨⟨rest, h1, h2⟩, ⟨v3, h3⟩, ⟨v4, h4⟩, h5, h6⟩ := h
  exact ⟨⟨rest, h1, h2.moved (hk.block _ (by omega) (by omega) (by omega)) (hk.block _ (by omega) (by omega) (by omega))⟩, ⟨v3, h3.kept2 hk (by omega)⟩, ⟨v4, h4.kept2 hk (by omega)⟩, h5.kept2 hk (by omega), h6.trans (hk.below (by omega) (by omega))⟩
theorem cX_kept {ti te : TypeId} {w : World} {b0 d : Nat} {xs ls : List Bs} {c : Code} {pre : List ByteArray} {A B : World} (h : cX ti te w b0 xs ls c pre A)
    (hz : d + 2 ≤ A.heap.size) (hk : Kept2 d A B) (h0 : b0 + 1 < d) (hw : w.heap.size ≤ d) : cX ti te w b0 xs ls c pre B := by
  obtain ⟨h1, h2, h3, h4⟩ := h
  exact ⟨h1, h2.kept2 hk (by omega), h3.kept2 hk (by omega), h4.trans (hk.below (by omega) (by omega))⟩
end NP

namespace Go.Proofs.YtjecmfajdofamaaGreatDoor
open Go.RowKit Go.Shelf NP
attribute [local go_sem] Oper.semAt_some

theorem map_S_mk (l : List Bs) : (l.map mk).map S = l := by simp [List.map_map, Function.comp_def]

set_option maxHeartbeats 1000000 in
theorem Compare_calls (a b : ByteArray) (w : World) :
    Calls Tryz.prog 217 #[.string a, .string b] w fun e w' => e = .returned (.tuple #[.int .i64 (compareR (S a) (S b)).1, .int .i64 (compareR (S a) (S b)).2]) ∧ Below w.heap.size w w' := by
  refine (callsIn_wide (n := 3)).1 ?_
  refine callsIn_of_wp_marks Tryz.func217 rfl trivial ?_ rfl
  simp only [Tryz.ntmps217, List.size_toArray, List.length_cons, List.length_nil, Nat.reduceAdd, Nat.reduceSub, Array.replicate_succ, Array.replicate_zero, List.push_toArray, List.append_toArray, List.nil_append, List.cons_append]
  by_cases hv : validN (S a) = true
  rotate_left
  · have hv' : validN (S a) = false := by simpa using hv
    have HR : Hid (compareR (S a) (S b) = (0, 11)) := by unfold Hid compareR; rw [if_neg (fun h => hv h.1)]
    clear hv
    gi_wp2_with fail
    refine ⟨trivial, (callsIn_wide.2 (valid_calls _ _)).mono ?_⟩
    rintro e w1 ⟨rfl, hb⟩
    obtain ⟨h0, h1, hb1, hz1⟩ := two_boxes hb
    have c0 := h0.cell
    have f0 := h0.frozen
    have c1 := h1.cell
    have f1 := h1.frozen
    clear hb
    rw [hv']
    gi_wp2_with fail
    refine ⟨trivial, ?_⟩
    gi_wp2
    have g0 := ((h0.set (.int .i64 0)).setOther (c := w.heap.size + 1) (by omega) (.int .i64 11)).cell
    have g1 := ((h1.setOther (c := w.heap.size) (by omega) (.int .i64 0)).set (.int .i64 11)).cell
    refine ⟨.tuple #[.int .i64 0, .int .i64 11], ?_, ?_⟩
    · simp [results, Tryz.results217, go_sem, g0, g1]
    · rw [HR.out]
      exact ⟨rfl, (hb1.set (by omega) _).set (by omega) _⟩
  by_cases hz : validN (S b) = true
  rotate_left
  · have hz' : validN (S b) = false := by simpa using hz
    have HR : Hid (compareR (S a) (S b) = (0, 11)) := by unfold Hid compareR; rw [if_neg (fun h => hz h.2)]
    clear hz
    gi_wp2_with fail
    refine ⟨trivial, (callsIn_wide.2 (valid_calls _ _)).mono ?_⟩
    rintro e w1 ⟨rfl, hb⟩
    rw [hv]
    gi_wp2_with fail
    refine ⟨trivial, (callsIn_wide.2 (valid_calls _ _)).mono ?_⟩
    rintro e w2 ⟨rfl, hb2⟩
    obtain ⟨h0, h1, hb1, hz1⟩ := two_boxes (hb.trans (hb2.mono hb.size))
    have c0 := h0.cell
    have f0 := h0.frozen
    have c1 := h1.cell
    have f1 := h1.frozen
    clear hb hb2
    rw [hz']
    gi_wp2
    have g0 := ((h0.set (.int .i64 0)).setOther (c := w.heap.size + 1) (by omega) (.int .i64 11)).cell
    have g1 := ((h1.setOther (c := w.heap.size) (by omega) (.int .i64 0)).set (.int .i64 11)).cell
    refine ⟨.tuple #[.int .i64 0, .int .i64 11], ?_, ?_⟩
    · simp [results, Tryz.results217, go_sem, g0, g1]
    · rw [HR.out]
      exact ⟨rfl, (hb1.set (by omega) _).set (by omega) _⟩
  have hR : compareR (S a) (S b) = (cmpL (back (S a)) (back (S b)), 0) := by unfold compareR; rw [if_pos ⟨hv, hz⟩]; rfl
  have h60 := valid_len hv
  have h61 := valid_len hz
  rw [← S_size] at h60 h61
  gi_wp2_with fail
  refine ⟨trivial, (callsIn_wide.2 (valid_calls _ _)).mono ?_⟩
  rintro e w1 ⟨rfl, hb⟩
  rw [hv]
  gi_wp2_with fail
  refine ⟨trivial, (callsIn_wide.2 (valid_calls _ _)).mono ?_⟩
  rintro e w2 ⟨rfl, hb2⟩
  obtain ⟨h0, h1, hb1, hz1⟩ := two_boxes (hb.trans (hb2.mono hb.size))
  clear hb hb2
  rw [hz]
  clear hv hz
  by_cases he : S a = S b
  · have hq : (a.toList == b.toList) = true := by rw [S_toList, S_toList, he]; simp
    have HR : Hid (compareR (S a) (S b) = (0, 0)) := by unfold Hid; rw [hR, he, (cmpL_ord.zero _ _).2 rfl]
    have c0 := h0.cell
    have f0 := h0.frozen
    have c1 := h1.cell
    have f1 := h1.frozen
    clear he hR
    gi_wp2
    have g0 := ((h0.set (.int .i64 0)).setOther (c := w.heap.size + 1) (by omega) (.int .i64 0)).cell
    have g1 := ((h1.setOther (c := w.heap.size) (by omega) (.int .i64 0)).set (.int .i64 0)).cell
    refine ⟨.tuple #[.int .i64 0, .int .i64 0], ?_, ?_⟩
    · simp [results, Tryz.results217, go_sem, g0, g1]
    · rw [HR.out]
      exact ⟨rfl, (hb1.set (by omega) _).set (by omega) _⟩
  have hq : (a.toList == b.toList) = false := by rw [S_toList, S_toList]; simpa using he
  have HR := Lib.hid hR
  have HE := Lib.hid he
  clear he hR
  gi_wp2_with fail
  refine ⟨trivial, (callsIn_wide.2 (puller_calls _ (by omega) _)).mono ?_⟩
  rintro e w3 ⟨rfl, hp, hb3, hs3⟩
  have HS3 := Lib.hid hs3
  have h0' := h0.below hb3 (by omega)
  have h1' := h1.below hb3 (by omega)
  have hb4 := hb1.trans (hb3.mono (by omega))
  clear h0 h1 hb1 hb3 hs3
  gi_wp2
  obtain ⟨fv, hfv⟩ : ∃ fv, Value.func (Fn.func 270) #[] #[Value.pointer (some { block := w2.heap.size + 1, off := 0 }), Value.pointer (some { block := w2.heap.size, off := 0 })] = fv := ⟨_, rfl⟩
  obtain ⟨W0, hW0⟩ : ∃ W0, w3.alloc (Obj.cells #[fv] 249) = W0 := ⟨_, rfl⟩
  have hs3 := HS3.out
  have hsz : W0.heap.size = w2.heap.size + 3 := by rw [← hW0]; simp; omega
  have hI0 : cI 3 27 249 4 9 w w.heap.size (w2.heap.size + 2) (w2.heap.size + 1) w2.heap.size fv ((back (S b)).map mk) [] W0 := by
    have hb8 := Boxed.new w3 249 fv
    rw [hW0, hs3] at hb8
    have hal : Below w3.heap.size w3 W0 := by rw [← hW0]; exact (Below.refl _ w3).alloc (Nat.le_refl _) _
    exact ⟨⟨_, rfl, hp.moved (hal.block _ (by omega)) (hal.block _ (by omega))⟩, ⟨_, h0'.below hal (by omega)⟩, ⟨_, h1'.below hal (by omega)⟩, hb8, hb4.trans (hal.mono (by omega))⟩
  have HEQ : Hid (w3.heap.size = w2.heap.size + 2) := hs3
  rw [hs3, hfv, hW0]
  clear hp h0' h1' hb4 hs3 HS3
  refine wpIn_rangeL (gf := 165) (first := #[.string a]) (lb := #[]) rfl (enters_of Tryz.func165 (by kernel_rfl) rfl) (back_seq a (by omega) w.heap.size W0) (by omega) (fun A B h => h ▸ Below.refl _ _) (fun _ => rfl)
    (cI 3 27 249 4 9 w w.heap.size (w2.heap.size + 2) (w2.heap.size + 1) w2.heap.size fv ((back (S b)).map mk))
    (cX 3 27 w w.heap.size (back (S a)) (back (S b)))
    (fun pre A B h hz hk => cI_kept h hz hk (by omega) (by omega) (by omega) (by omega) (by omega)) (fun c pre A B h hz hk => cX_kept h hz hk (by omega) (by omega))
    (fun W hk => ?start)
    (fun x => { tmps := #[.string a, .string b, undef, undef, Value.pointer (some { block := w.heap.size, off := 0 }),
          Value.pointer (some { block := w.heap.size + 1, off := 0 }), Value.string a, Value.string b,
          Value.pointer (some { block := w2.heap.size + 2, off := 0 }), Value.func (Fn.func 165) #[Value.string a] #[], .string x, undef, undef, undef, Value.string a,
          Value.string b, Value.string a, Value.bool true, Value.bool false, Value.bool false, Value.string b,
          Value.bool true, Value.bool false, Value.bool false, Value.string a, Value.string b, Value.bool false,
          Value.string b, fv, Value.string a, Value.func (Fn.func 165) #[Value.string a] #[], Value.func (Fn.func 165) #[Value.string a] #[], .string x, undef, undef, undef, undef, undef, undef, undef, undef, undef, undef, undef, undef, undef], defers := [] }) ?assign ?body ?done ?stop
  case start =>
    obtain ⟨⟨rest, k1, k2⟩, ⟨v3, k3⟩, ⟨v4, k4⟩, k5, k6⟩ := hI0
    exact ⟨⟨rest, k1, k2.moved (hk.block _ (by omega) (by omega) (by omega)) (hk.block _ (by omega) (by omega) (by omega))⟩, ⟨v3, k3.kept2 hk (by omega)⟩, ⟨v4, k4.kept2 hk (by omega)⟩, k5.kept2 hk (by omega), k6.trans (hk.below (by omega) (by omega))⟩
  case assign =>
    intro l x W K hK
    gi_wp2
    exact hK
  case body =>
    rintro l pre x post W hx hzW ⟨⟨rest, k1, k2⟩, ⟨v3, k3⟩, ⟨v4, k4⟩, k5, k6⟩
    have HX := Lib.hid hx
    have HK1 := Lib.hid k1
    have HSZ := Lib.hid hsz
    clear hx hI0 hq hW0 k1 hsz
    subst hfv
    have c5 := k5.cell
    gi_wp2_with fail
    refine ⟨trivial, (CallsIn.inRound l (callsIn_wide.2 (next_calls _ _ (by omega) rest _ k2))).mono ?_⟩
    rintro e W' (⟨rfl, rfl, rfl⟩ | ⟨y, t, rfl, rfl, hp', ht'⟩)
    · have c3 := k3.cell
      have f3 := k3.frozen
      have c4 := k4.cell
      have f4 := k4.frozen
      gi_wp2
      have hsz := HSZ.out
      refine ⟨((Same2.refl _ _).set (.inl (by omega)) _).set (.inl (by omega)) _, rfl, ?_, (k4.setOther (by omega) _).set _, (k6.set (by omega) _).set (by omega) _⟩
      have e1 : cmpL (back (S a)) (back (S b)) = 1 := by
        have h1 := congrArg (List.map S) HX.out
        have h2 := congrArg (List.map S) HK1.out
        rw [map_S_mk] at h1 h2
        rw [h1, h2, List.append_nil, List.map_append]
        exact cmp_more _ _ _
      rw [e1]
      exact (k3.set _).setOther (by omega) _
    · have k3' := ht'.boxed k3 (by omega) (by omega)
      have k4' := ht'.boxed k4 (by omega) (by omega)
      have k5' := ht'.boxed k5 (by omega) (by omega)
      have s2 : Same2 W0.heap.size W W' := ht'.same2 (by rw [HSZ.out]; omega) (by rw [HSZ.out]; omega)
      have b2 : Below w.heap.size W W' := ht'.below (by omega) (by omega)
      have b6 := k6.trans b2
      have c3 := k3'.cell
      have f3 := k3'.frozen
      have c4 := k4'.cell
      have f4 := k4'.frozen
      have r := compareBytes_ord.range x.data.toList y.data.toList
      clear k2 k3 k4 k5 k6 c5
      by_cases hc : Lib.compareBytes x.data.toList y.data.toList = 0
      · have HC := Lib.hid hc
        clear hc r
        gi_wp2_with (refine ⟨trivial, ?_⟩; gi_at_call 255; refine (CallsIn.inRound l (callsIn_wide.2 (Tryz.strings_Compare _ _ _))).mono ?_; rintro e w' ⟨rfl, rfl⟩; rw [HC.out])
        have exy : x = y := S_inj ((compareBytes_ord.zero _ _).1 HC.out)
        refine ⟨s2, b2, ⟨t, ?_, hp'⟩, ⟨v3, k3'⟩, ⟨v4, k4'⟩, k5', b6⟩
        rw [HK1.out, exy]; simp
      · have HE1 : Hid (cmpL (back (S a)) (back (S b)) = Lib.compareBytes x.data.toList y.data.toList) := by
          have h1 := congrArg (List.map S) HX.out
          have h2 := congrArg (List.map S) HK1.out
          rw [map_S_mk] at h1 h2
          unfold Hid
          rw [h1, h2, List.map_append, List.map_append]
          exact cmp_here _ _ _ _ _ hc
        obtain ⟨c, hcc⟩ : ∃ c, Lib.compareBytes x.data.toList y.data.toList = c := ⟨_, rfl⟩
        rw [hcc] at hc HE1
        have hc' : (c != 0) = true := by simpa using hc
        have HCC := Lib.hid hcc
        clear hc hcc r
        gi_wp2_with (refine ⟨trivial, ?_⟩; gi_at_call 255; refine (CallsIn.inRound l (callsIn_wide.2 (Tryz.strings_Compare _ _ _))).mono ?_; rintro e w' ⟨rfl, rfl⟩; rw [HCC.out])
        have hsz := HSZ.out
        refine ⟨(s2.set (.inl (by omega)) _).set (.inl (by omega)) _, rfl, ?_, (k4'.setOther (by omega) _).set _, (b6.set (by omega) _).set (by omega) _⟩
        rw [HE1.out]
        exact (k3'.set _).setOther (by omega) _
  case done =>
    rintro W hzW ⟨⟨rest, k1, k2⟩, ⟨v3, k3⟩, ⟨v4, k4⟩, k5, k6⟩ hK
    have HK1 := Lib.hid k1
    have HSZ := Lib.hid hsz
    have HK := Lib.hid hK
    clear hI0 hW0 k1 hsz hK
    have c3 := k3.cell
    have f3 := k3.frozen
    have c4 := k4.cell
    have f4 := k4.frozen
    gi_wp2
    have hsz := HSZ.out
    refine ⟨by simp, .inl ⟨_, _, rfl, run_takeDeferred (heap_set_other _ (by omega) (heap_set_other _ (by omega) HK.out)), ?_⟩⟩
    have g0 := (((k3.set (.int .i64 (-1))).setOther (c := w.heap.size + 1) (by omega) (.int .i64 0)).putOther (l := W0.heap.size) (by omega) (.deferred none)).cell
    have g1 := (((k4.setOther (c := w.heap.size) (by omega) (.int .i64 (-1))).set (.int .i64 0)).putOther (l := W0.heap.size) (by omega) (.deferred none)).cell
    have e1 : cmpL (back (S a)) (back (S b)) = -1 := by
      have h2 := congrArg (List.map S) HK1.out
      rw [map_S_mk, List.map_append, map_S_mk] at h2
      cases rest with
      | nil =>
        rw [List.map_nil, List.append_nil] at h2
        exact absurd (back_inj h2.symm) HE.out
      | cons y t => rw [h2]; exact cmp_less _ _ _
    refine ⟨.tuple #[.int .i64 (-1), .int .i64 0], ?_, ?_⟩
    · simp [results, Tryz.results217, go_sem, g0, g1]
    · rw [HR.out, e1]
      exact ⟨rfl, ((k6.set (by omega) _).set (by omega) _).put (by omega) _⟩
  case stop =>
    rintro c pre W hp hzW ⟨rfl, k2, k3, k4⟩ hK
    have HSZ := Lib.hid hsz
    clear hI0 hW0 hsz
    gi_wp2
    have hsz := HSZ.out
    refine ⟨by simp, .inl ⟨_, _, rfl, run_takeDeferred hK, ?_⟩⟩
    have g0 := (k2.putOther (l := W0.heap.size) (by omega) (.deferred none)).cell
    have g1 := (k3.putOther (l := W0.heap.size) (by omega) (.deferred none)).cell
    refine ⟨.tuple #[.int .i64 (cmpL (back (S a)) (back (S b))), .int .i64 0], ?_, ?_⟩
    · simp [results, Tryz.results217, go_sem, g0, g1]
    · rw [HR.out]
      exact ⟨rfl, k4.put (by omega) _⟩
end Go.Proofs.YtjecmfajdofamaaGreatDoor

/-
  Contract of Common.
-/
namespace NP
open Go Go.RowKit

/-- How long the labels are, joined. -/
def szL (l : List Bs) : Nat := (joinDot l.reverse).length
theorem szL_nil : szL [] = 0 := rfl
theorem szL_one (x : Bs) : szL [x] = x.length := rfl
theorem szL_snoc (l : List Bs) (x : Bs) (h : l ≠ []) : szL (l ++ [x]) = szL l + 1 + x.length := by
  unfold szL
  rw [List.reverse_append]
  show (joinDot (x :: l.reverse)).length = _
  rw [joinDot_cons x _ (by simpa using h)]
  simp; omega
theorem szL_pos (l : List Bs) (h : l ≠ []) (hx : ∀ x ∈ l, x ≠ []) : 0 < szL l := by
  obtain ⟨m, x, rfl⟩ : ∃ m x, l = m ++ [x] := ⟨l.dropLast, l.getLast h, (List.dropLast_concat_getLast h).symm⟩
  have : 0 < x.length := List.length_pos_iff.2 (hx x (by simp))
  by_cases e : m = []
  · subst e; simpa [szL_one] using this
  · rw [szL_snoc m x e]; omega

theorem lcp_app (p a b : List Bs) : lcp (p ++ a) (p ++ b) = p ++ lcp a b := by
  induction p with
  | nil => rfl
  | cons x p ih => simp [lcp, ih]
theorem lcp_end (p post : List Bs) (x : Bs) : lcp (p ++ x :: post) p = p := by
  have := lcp_app p (x :: post) []
  simpa [lcp] using this
theorem lcp_here (p post t : List Bs) (x y : Bs) (h : x ≠ y) : lcp (p ++ x :: post) (p ++ y :: t) = p := by
  rw [lcp_app]; simp [lcp, h]
theorem lcp_whole (p r : List Bs) : lcp p (p ++ r) = p := by
  have := lcp_app p [] r
  simpa [lcp] using this

/-- The last labels, joined, are the end of a name. -/
theorem end_of {a : Bs} {l r : List Bs} (hr : l ++ r = back a) (h : l ≠ []) : szL l ≤ a.length ∧ a.drop (a.length - szL l) = joinDot l.reverse := by
  unfold szL
  have ea : a = joinDot (r.reverse ++ l.reverse) := by
    have e2 : labs a = (l ++ r).reverse := by rw [hr, back_eq]; simp
    have e3 : labs a ≠ [] := by rw [e2]; simp [h]
    have e4 := nameOf_labs a
    unfold nameOf at e4
    rw [if_neg e3, e2, List.reverse_append] at e4
    exact e4.symm
  by_cases er : r = []
  · subst er
    rw [List.reverse_nil, List.nil_append] at ea
    rw [← ea]
    simp
  · rw [joinDot_append _ _ (by simpa using er) (by simpa using h)] at ea
    rw [ea]
    refine ⟨by simp; omega, ?_⟩
    have e5 : joinDot r.reverse ++ 46 :: joinDot l.reverse = (joinDot r.reverse ++ [46]) ++ joinDot l.reverse := by simp
    rw [e5]
    have e6 : ((joinDot r.reverse ++ [46]) ++ joinDot l.reverse).length - (joinDot l.reverse).length = (joinDot r.reverse ++ [46]).length := by simp; omega
    rw [e6, List.drop_left]
theorem szL_le {a : Bs} {l r : List Bs} (hr : l ++ r = back a) : szL l ≤ a.length := by
  by_cases h : l = []
  · subst h; rw [szL_nil]; exact Nat.zero_le _
  · exact (end_of hr h).1
/-- The common name is the end of the first one. -/
theorem common_end {a b : Bs} (h : lcp (back a) (back b) ≠ []) : szL (lcp (back a) (back b)) ≤ a.length ∧ a.drop (a.length - szL (lcp (back a) (back b))) = commonN a b := by
  obtain ⟨r, hr⟩ := lcp_left (back a) (back b)
  have e1 : commonN a b = joinDot (lcp (back a) (back b)).reverse := by unfold commonN nameOf; rw [if_neg (by simpa using h)]
  rw [e1]
  exact end_of hr h
theorem common_root {a b : Bs} (h : lcp (back a) (back b) = []) : commonN a b = [46] := by unfold commonN; rw [h]; rfl

/-- Between two rounds. -/
def mI (ti tf tb ts : TypeId) (w : World) (b10 b8 bm br : Nat) (fv : Value) (ls : List ByteArray) (pre : List ByteArray) (W : World) : Prop :=
  (∃ rest, ls = pre ++ rest ∧ Pull tb ts W bm br rest) ∧ Boxed W b10 ti (.int .i64 (szL (pre.map S))) ∧ Boxed W b8 tf fv ∧ Below w.heap.size w W
/-- A round has broken off. -/
def mX (ti : TypeId) (w : World) (b10 : Nat) (l : List Bs) (c : Code) (_ : List ByteArray) (W : World) : Prop :=
  c = .exit 0 ∧ Boxed W b10 ti (.int .i64 (szL l)) ∧ Below w.heap.size w W

theorem mI_kept {ti tf tb ts : TypeId} {w : World} {b10 b8 bm br d : Nat} {fv : Value} {ls pre : List ByteArray} {A B : World} (h : mI ti tf tb ts w b10 b8 bm br fv ls pre A)
    (hz : d ≤ A.heap.size) (hk : Kept2 d A B) (h0 : b10 < d) (h8 : b8 < d) (hm : bm < d) (hr : br < d) (hw : w.heap.size ≤ d) : mI ti tf tb ts w b10 b8 bm br fv ls pre B := by
  obtain ⟨⟨rest, h1, h2⟩, h3, h5, h6⟩ := h
  exact ⟨⟨rest, h1, h2.moved (hk.block _ (by omega) (by omega) (by omega)) (hk.block _ (by omega) (by omega) (by omega))⟩, h3.kept2 hk (by omega), h5.kept2 hk (by omega), h6.trans (hk.below (by omega) (by omega))⟩
theorem mX_kept {ti : TypeId} {w : World} {b10 d : Nat} {l : List Bs} {c : Code} {pre : List ByteArray} {A B : World} (h : mX ti w b10 l c pre A)
    (hz : d ≤ A.heap.size) (hk : Kept2 d A B) (h0 : b10 < d) (hw : w.heap.size ≤ d) : mX ti w b10 l c pre B := by
  obtain ⟨h1, h2, h4⟩ := h
  exact ⟨h1, h2.kept2 hk (by omega), h4.trans (hk.below (by omega) (by omega))⟩
end NP

namespace Go.Proofs.YtjecmfajdofamaaGreatDoor
open Go.RowKit Go.Shelf NP
attribute [local go_sem] Oper.semAt_some

set_option maxHeartbeats 1000000 in
theorem Common_calls (a b : ByteArray) (w : World) :
    Calls Tryz.prog 224 #[.string a, .string b] w fun e w' => e = .returned (.tuple #[.string (mk (commonR (S a) (S b)).1), .int .i64 (commonR (S a) (S b)).2]) ∧ Below w.heap.size w w' := by
  refine (callsIn_wide (n := 3)).1 ?_
  refine callsIn_of_wp_marks Tryz.func224 rfl trivial ?_ rfl
  simp only [Tryz.ntmps224, List.size_toArray, List.length_cons, List.length_nil, Nat.reduceAdd, Nat.reduceSub, Array.replicate_succ, Array.replicate_zero, List.push_toArray, List.append_toArray, List.nil_append, List.cons_append]
  by_cases hv : validN (S a) = true
  rotate_left
  · have hv' : validN (S a) = false := by simpa using hv
    have HR : Hid (commonR (S a) (S b) = ([], 11)) := by unfold Hid commonR; rw [if_neg (fun h => hv h.1)]
    clear hv
    gi_wp2_with fail
    refine ⟨trivial, (callsIn_wide.2 (valid_calls _ _)).mono ?_⟩
    rintro e w1 ⟨rfl, hb⟩
    rw [hv']
    gi_wp2_with fail
    refine ⟨trivial, ?_⟩
    gi_wp2
    refine ⟨_, results_tmp2 rfl _ _ _, ?_⟩
    rw [HR.out]
    exact ⟨rfl, hb⟩
  by_cases hz : validN (S b) = true
  rotate_left
  · have hz' : validN (S b) = false := by simpa using hz
    have HR : Hid (commonR (S a) (S b) = ([], 11)) := by unfold Hid commonR; rw [if_neg (fun h => hz h.2)]
    clear hz
    gi_wp2_with fail
    refine ⟨trivial, (callsIn_wide.2 (valid_calls _ _)).mono ?_⟩
    rintro e w1 ⟨rfl, hb⟩
    rw [hv]
    gi_wp2_with fail
    refine ⟨trivial, (callsIn_wide.2 (valid_calls _ _)).mono ?_⟩
    rintro e w2 ⟨rfl, hb2⟩
    have hb1 := hb.trans (hb2.mono hb.size)
    clear hb hb2
    rw [hz']
    gi_wp2
    refine ⟨_, results_tmp2 rfl _ _ _, ?_⟩
    rw [HR.out]
    exact ⟨rfl, hb1⟩
  have HR : Hid (commonR (S a) (S b) = (commonN (S a) (S b), 0)) := by unfold Hid commonR; rw [if_pos ⟨hv, hz⟩]
  have HV := Lib.hid hv
  have h60 := valid_len hv
  have h61 := valid_len hz
  rw [← S_size] at h60 h61
  gi_wp2_with fail
  refine ⟨trivial, (callsIn_wide.2 (valid_calls _ _)).mono ?_⟩
  rintro e w1 ⟨rfl, hb⟩
  rw [hv]
  gi_wp2_with fail
  refine ⟨trivial, (callsIn_wide.2 (valid_calls _ _)).mono ?_⟩
  rintro e w2 ⟨rfl, hb2⟩
  have hb1 := hb.trans (hb2.mono hb.size)
  clear hb hb2
  rw [hz]
  clear hv hz
  gi_wp2_with fail
  refine ⟨trivial, (callsIn_wide.2 (puller_calls _ (by omega) _)).mono ?_⟩
  rintro e w3 ⟨rfl, hp, hb3, hs3⟩
  have HS3 := Lib.hid hs3
  have hz1 := hb1.size
  have hb4 := hb1.trans (hb3.mono (by omega))
  clear hb1 hb3 hs3
  gi_wp2
  obtain ⟨fv, hfv⟩ : ∃ fv, Value.func (Fn.func 270) #[] #[Value.pointer (some { block := w2.heap.size + 1, off := 0 }), Value.pointer (some { block := w2.heap.size, off := 0 })] = fv := ⟨_, rfl⟩
  obtain ⟨W0, hW0⟩ : ∃ W0, (w3.alloc (Obj.cells #[fv] 249)).alloc (Obj.cells #[Value.int IntKind.i64 0] 3) = W0 := ⟨_, rfl⟩
  have hs3 := HS3.out
  have hsz : W0.heap.size = w2.heap.size + 4 := by rw [← hW0]; simp; omega
  have hI0 : mI 3 249 4 9 w (w2.heap.size + 2 + 1) (w2.heap.size + 2) (w2.heap.size + 1) w2.heap.size fv ((back (S b)).map mk) [] W0 := by
    have hb8 := (Boxed.new w3 249 fv).alloc (Obj.cells #[Value.int IntKind.i64 0] 3)
    rw [hW0, hs3] at hb8
    have hb9 := Boxed.new (w3.alloc (Obj.cells #[fv] 249)) 3 (Value.int IntKind.i64 0)
    rw [hW0, World.size_alloc, hs3] at hb9
    have hal : Below w3.heap.size w3 W0 := by rw [← hW0]; exact ((Below.refl _ w3).alloc (Nat.le_refl _) _).alloc (by simp) _
    exact ⟨⟨_, rfl, hp.moved (hal.block _ (by omega)) (hal.block _ (by omega))⟩, hb9, hb8, hb4.trans (hal.mono (by omega))⟩
  rw [hs3, hfv, hW0]
  clear hp hb4 hs3 HS3
  refine wpIn_rangeL (gf := 165) (first := #[.string a]) (lb := #[]) rfl (enters_of Tryz.func165 (by kernel_rfl) rfl) (back_seq a (by omega) w.heap.size W0) (by omega) (fun A B h => h ▸ Below.refl _ _) (fun _ => rfl)
    (mI 3 249 4 9 w (w2.heap.size + 2 + 1) (w2.heap.size + 2) (w2.heap.size + 1) w2.heap.size fv ((back (S b)).map mk))
    (mX 3 w (w2.heap.size + 2 + 1) (lcp (back (S a)) (back (S b))))
    (fun pre A B h hz hk => mI_kept h (by omega) hk (by omega) (by omega) (by omega) (by omega) (by omega)) (fun c pre A B h hz hk => mX_kept h (by omega) hk (by omega) (by omega))
    (fun W hk => mI_kept hI0 (by omega) hk (by omega) (by omega) (by omega) (by omega) (by omega))
    (fun x => { tmps := #[Value.string a, Value.string b, undef, undef, Value.string { data := #[] }, Value.int IntKind.i64 0, Value.string a, Value.string b, Value.pointer (some { block := w2.heap.size + 2, off := 0 }), Value.func (Fn.func 165) #[Value.string a] #[], Value.pointer (some { block := w2.heap.size + 2 + 1, off := 0 }), .string x, undef, undef, Value.string a, Value.string b, Value.string a, Value.bool true, Value.bool false, Value.bool false, Value.string b, Value.bool true, Value.bool false, Value.bool false, Value.string b, fv, Value.string a, Value.func (Fn.func 165) #[Value.string a] #[], Value.func (Fn.func 165) #[Value.string a] #[], .string x, undef, undef, undef, undef, undef, undef, undef, undef, undef, undef, undef, undef, undef, undef, undef, undef, undef, undef, undef, undef, undef, undef, undef, undef, undef, undef, undef, undef], defers := [] }) ?assign ?body ?done ?stop
  case assign =>
    intro l x W K hK
    gi_wp2
    exact hK
  case body =>
    rintro l pre x post W hx hzW ⟨⟨rest, k1, k2⟩, k3, k5, k6⟩
    have HX := Lib.hid hx
    have HK1 := Lib.hid k1
    have HSZ := Lib.hid hsz
    have HXS : Hid (back (S a) = pre.map S ++ S x :: post.map S) := by
      have := congrArg (List.map S) hx
      rw [map_S_mk] at this
      unfold Hid; rw [this]; simp
    have HKS : Hid (back (S b) = pre.map S ++ rest.map S) := by
      have := congrArg (List.map S) k1
      rw [map_S_mk] at this
      unfold Hid; rw [this]; simp
    have hszb : szL (pre.map S) ≤ 60 := by
      have := szL_le HXS.out.symm
      rw [← S_size] at this; omega
    have hszx : szL (pre.map S ++ [S x]) ≤ 60 := by
      have h1 := HXS.out
      have := szL_le (a := S a) (l := pre.map S ++ [S x]) (r := post.map S) (by rw [h1]; simp)
      rw [← S_size] at this; omega
    have hpos : pre ≠ [] → 0 < szL (pre.map S) := by
      intro hne
      refine szL_pos _ (by simpa using hne) (fun z hz => okL_ne (valid_okL HV.out) (x := z) ?_)
      have h1 := HXS.out
      rw [back_eq] at h1
      have : z ∈ (labs (S a)).reverse := by rw [h1]; exact List.mem_append_left _ hz
      exact List.mem_reverse.1 this
    obtain ⟨n, hn, hn2⟩ : ∃ n, szL (pre.map S) = n ∧ ((n = 0 ∧ szL (pre.map S ++ [S x]) = x.size) ∨ (0 < n ∧ szL (pre.map S ++ [S x]) = n + 1 + x.size)) := by
      refine ⟨_, rfl, ?_⟩
      by_cases hpre : pre = []
      · subst hpre
        left
        exact ⟨rfl, by show (S x).length = _; rw [S_size]⟩
      · right
        refine ⟨hpos hpre, ?_⟩
        rw [szL_snoc _ _ (by simpa using hpre), S_size]
    rw [hn] at hszb k3
    have HN := Lib.hid hn
    have HN2 : Hid ((n = 0 ∧ szL (pre.map S ++ [S x]) = x.size) ∨ (0 < n ∧ szL (pre.map S ++ [S x]) = n + 1 + x.size)) := hn2
    have hx60 : n + 1 + x.size ≤ 61 := by omega
    clear hn hn2 hpos hszx
    clear hx hI0 hW0 k1 hsz
    subst hfv
    have c3 := k3.cell
    have f3 := k3.frozen
    have c5 := k5.cell
    gi_wp2_with fail
    refine ⟨trivial, (CallsIn.inRound l (callsIn_wide.2 (next_calls _ _ (by omega) rest _ k2))).mono ?_⟩
    rintro e W' (⟨rfl, rfl, rfl⟩ | ⟨y, t, rfl, rfl, hp', ht'⟩)
    · gi_wp2
      have e1 : lcp (back (S a)) (back (S b)) = pre.map S := by
        rw [HXS.out, HKS.out, List.map_nil, List.append_nil]; exact lcp_end _ _ _
      exact ⟨Same2.refl _ _, rfl, by rw [e1, HN.out]; exact k3, k6⟩
    · have k3' := ht'.boxed k3 (by omega) (by omega)
      have k5' := ht'.boxed k5 (by omega) (by omega)
      have s2 : Same2 W0.heap.size W W' := ht'.same2 (by rw [HSZ.out]; omega) (by rw [HSZ.out]; omega)
      have b2 : Below w.heap.size W W' := ht'.below (by omega) (by omega)
      have b6 := k6.trans b2
      clear k2 k3 k5 k6 c3 c5 f3
      have c3 := k3'.cell
      have f3 := k3'.frozen
      by_cases hc : S x = S y
      · have hq : (x.toList == y.toList) = true := by rw [S_toList, S_toList, hc]; simp
        have HC := Lib.hid hc
        clear hc
        have exy : ((back (S b)).map mk) = (pre ++ [x]) ++ t := by rw [HK1.out, S_inj HC.out]; simp
        have HXY := Lib.hid exy
        clear exy
        by_cases hn0 : 0 < n
        · have d0 : decide ((0 : Int) < (n : Int)) = true := by simp; omega
          have HF : Hid ((szL ((pre ++ [x]).map S) : Int) = (n : Int) + 1 + x.size) := by
            unfold Hid
            have := HN2.out
            rw [List.map_append]
            show (szL (pre.map S ++ [S x]) : Int) = _
            omega
          gi_wp2
          have hsz := HSZ.out
          refine ⟨(s2.set (.inl (by omega)) _).set (.inl (by omega)) _, (b2.set (by omega) _).set (by omega) _, ⟨t, HXY.out, ?_⟩, ?_, (k5'.setOther (by omega) _).setOther (by omega) _, (b6.set (by omega) _).set (by omega) _⟩
          · exact hp'.moved (heap_set_other _ (by omega) (heap_set_other _ (by omega) rfl)) (heap_set_other _ (by omega) (heap_set_other _ (by omega) rfl))
          · rw [HF.out]
            exact (k3'.set _).set _
        · have d0 : decide ((0 : Int) < (n : Int)) = false := by simp; omega
          have HF : Hid ((szL ((pre ++ [x]).map S) : Int) = (n : Int) + x.size) := by
            unfold Hid
            have := HN2.out
            rw [List.map_append]
            show (szL (pre.map S ++ [S x]) : Int) = _
            omega
          gi_wp2
          have hsz := HSZ.out
          refine ⟨s2.set (.inl (by omega)) _, b2.set (by omega) _, ⟨t, HXY.out, ?_⟩, ?_, k5'.setOther (by omega) _, b6.set (by omega) _⟩
          · exact hp'.moved (heap_set_other _ (by omega) rfl) (heap_set_other _ (by omega) rfl)
          · rw [HF.out]
            exact k3'.set _
      · have hq : (x.toList == y.toList) = false := by rw [S_toList, S_toList]; simpa using hc
        have HC := Lib.hid hc
        clear hc
        gi_wp2
        have e1 : lcp (back (S a)) (back (S b)) = pre.map S := by
          rw [HXS.out, HKS.out]; exact lcp_here _ _ _ _ _ HC.out
        exact ⟨s2, rfl, by rw [e1, HN.out]; exact k3', b6⟩
  case done =>
    rintro W hzW ⟨⟨rest, k1, k2⟩, k3, k5, k6⟩ hK
    have e1 : lcp (back (S a)) (back (S b)) = back (S a) := by
      have := congrArg (List.map S) k1
      rw [map_S_mk, List.map_append, map_S_mk] at this
      rw [this]; exact lcp_whole _ _
    rw [map_S_mk, ← e1] at k3
    clear e1 k1 k2 k5
    have HSZ := Lib.hid hsz
    have HK := Lib.hid hK
    clear hsz hW0 hI0 hK
    by_cases hl : lcp (back (S a)) (back (S b)) = []
    · rw [hl] at k3
      have k3' : Boxed W (w2.heap.size + 2 + 1) 3 (.int .i64 0) := k3
      have HC := Lib.hid (common_root hl)
      have c3 := k3'.cell
      clear hl k3
      gi_wp2
      have hsz := HSZ.out
      refine ⟨by simp, .inl ⟨_, _, rfl, run_takeDeferred HK.out, ?_⟩⟩
      refine ⟨_, results_tmp2 rfl _ _ _, ?_⟩
      rw [HR.out, HC.out]
      exact ⟨rfl, k6.put (by omega) _⟩
    · obtain ⟨hle, hdrop⟩ := common_end hl
      have hpos : 0 < szL (lcp (back (S a)) (back (S b))) := by
        refine szL_pos _ hl (fun z hz => okL_ne (valid_okL HV.out) (x := z) ?_)
        have := (lcp_left (back (S a)) (back (S b))).subset hz
        rw [back_eq] at this
        exact List.mem_reverse.1 this
      rw [← S_size] at hle hdrop
      generalize szL (lcp (back (S a)) (back (S b))) = n at *
      have c3 := k3.cell
      have hn0 : ((n : Int) == 0) = false := by simp; omega
      have HD := Lib.hid hdrop
      clear hl hdrop k3
      gi_wp2
      have hsz := HSZ.out
      refine ⟨by simp, .inl ⟨_, _, rfl, run_takeDeferred HK.out, ?_⟩⟩
      refine ⟨_, results_tmp2 rfl _ _ _, ?_⟩
      have e2 : mk (commonN (S a) (S b)) = a.extract (a.size - n) a.size := by
        apply S_inj; rw [S_mk, S_extract, List.take_of_length_le (by simp [← S_size]), HD.out]
      rw [HR.out, e2]
      exact ⟨rfl, k6.put (by omega) _⟩
  case stop =>
    rintro c pre W hp hzW ⟨rfl, k3, k6⟩ hK
    clear hp
    have HSZ := Lib.hid hsz
    have HK := Lib.hid hK
    clear hsz hW0 hI0 hK
    by_cases hl : lcp (back (S a)) (back (S b)) = []
    · rw [hl] at k3
      have k3' : Boxed W (w2.heap.size + 2 + 1) 3 (.int .i64 0) := k3
      have HC := Lib.hid (common_root hl)
      have c3 := k3'.cell
      clear hl k3
      gi_wp2
      have hsz := HSZ.out
      refine ⟨by simp, .inl ⟨_, _, rfl, run_takeDeferred HK.out, ?_⟩⟩
      refine ⟨_, results_tmp2 rfl _ _ _, ?_⟩
      rw [HR.out, HC.out]
      exact ⟨rfl, k6.put (by omega) _⟩
    · obtain ⟨hle, hdrop⟩ := common_end hl
      have hpos : 0 < szL (lcp (back (S a)) (back (S b))) := by
        refine szL_pos _ hl (fun z hz => okL_ne (valid_okL HV.out) (x := z) ?_)
        have := (lcp_left (back (S a)) (back (S b))).subset hz
        rw [back_eq] at this
        exact List.mem_reverse.1 this
      rw [← S_size] at hle hdrop
      generalize szL (lcp (back (S a)) (back (S b))) = n at *
      have c3 := k3.cell
      have hn0 : ((n : Int) == 0) = false := by simp; omega
      have HD := Lib.hid hdrop
      clear hl hdrop k3
      gi_wp2
      have hsz := HSZ.out
      refine ⟨by simp, .inl ⟨_, _, rfl, run_takeDeferred HK.out, ?_⟩⟩
      refine ⟨_, results_tmp2 rfl _ _ _, ?_⟩
      have e2 : mk (commonN (S a) (S b)) = a.extract (a.size - n) a.size := by
        apply S_inj; rw [S_mk, S_extract, List.take_of_length_le (by simp [← S_size]), HD.out]
      rw [HR.out, e2]
      exact ⟨rfl, k6.put (by omega) _⟩
end Go.Proofs.YtjecmfajdofamaaGreatDoor
