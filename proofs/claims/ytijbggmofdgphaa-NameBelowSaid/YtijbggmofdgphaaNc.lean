/-
  Contract of valid.
-/
import Derived.Test.YtijbggmofdgphaaNa
import Derived.Test.YtijbggmofdgphaaNb
namespace NP

def wildL (pre : List Bs) : Bool := pre.getLast? == some [42]
def vst (pre : List Bs) : Prop := ∀ ls, vgo false 0 (pre ++ ls) = vgo (wildL pre) pre.length ls

theorem vst_nil : vst [] := fun _ => rfl
theorem vst_snoc {pre : List Bs} {x : Bs} (h : vst pre) (hw : wildL pre = false) (hc : pre.length + 1 ≤ 8) (hx : x = [42] ∨ isLabel x = true) : vst (pre ++ [x]) := by
  intro ls
  rw [List.append_assoc, h]
  show vgo (wildL pre) pre.length (x :: ls) = _
  rw [vgo, hw, if_neg (by simp; omega), if_neg (by simp; exact fun hn => hx.resolve_left hn)]
  simp [wildL]
theorem vst_bad {pre : List Bs} {x : Bs} (h : vst pre) (hb : wildL pre = true ∨ 8 < pre.length + 1 ∨ (¬ x = [42] ∧ isLabel x = false)) (ls : List Bs) : vgo false 0 (pre ++ x :: ls) = false := by
  rw [h, vgo]
  rcases hb with hb | hb | ⟨h1, h2⟩
  · simp [hb]
  · simp [hb]
  · by_cases hg : wildL pre = true ∨ 8 < pre.length + 1
    · simp [hg]
    · rw [if_neg (by simpa using hg), if_pos (by simp [h1, h2])]
end NP

namespace Go.Proofs.Ytijbggmofdgphaa
open Go.RowKit Go.Shelf NP
attribute [local go_sem] Oper.semAt_some

theorem valid_root (s : ByteArray) (h : S s = [46]) : validN (S s) = true := by simp [validN, h]
theorem valid_long (s : ByteArray) (h0 : ¬ S s = [46]) (h : 60 < s.size) : validN (S s) = false := by
  have : ¬ (S s).length ≤ 60 := by rw [← S_size]; omega
  simp [validN, h0, this]
theorem valid_go (s : ByteArray) (h0 : ¬ S s = [46]) (h : ¬ 60 < s.size) : validN (S s) = vgo false 0 (back (S s)) := by
  have : (S s).length ≤ 60 := by rw [← S_size]; omega
  simp [validN, h0, this]

def vI (w : World) (b : Nat) (pre : List ByteArray) (W : World) : Prop :=
  vst (pre.map S) ∧ pre.length ≤ 8 ∧ Boxed W b 4 (.bool false) ∧ Boxed W (b + 1) 3 (.int .i64 pre.length) ∧ Boxed W (b + 1 + 1) 4 (.bool (wildL (pre.map S))) ∧ Below w.heap.size w W
def vX (w : World) (b : Nat) (c : Code) (pre : List ByteArray) (W : World) : Prop :=
  c = .ret ∧ (∀ ls, vgo false 0 (pre.map S ++ ls) = false) ∧ Boxed W b 4 (.bool false) ∧ Below w.heap.size w W

theorem vI_kept {w : World} {d : Nat} {pre : List ByteArray} {A B : World} (h : vI w w.heap.size pre A) (hd : d = w.heap.size + 3) (hz : d + 2 ≤ A.heap.size) (hk : Kept2 d A B) : vI w w.heap.size pre B := by
  obtain ⟨h1, h2, h3, h4, h5, h6⟩ := h
  exact ⟨h1, h2, h3.kept2 hk (by omega), h4.kept2 hk (by omega), h5.kept2 hk (by omega), h6.trans (hk.below (by omega) (by omega))⟩
theorem vX_kept {w : World} {d : Nat} {c : Code} {pre : List ByteArray} {A B : World} (h : vX w w.heap.size c pre A) (hd : d = w.heap.size + 3) (hz : d + 2 ≤ A.heap.size) (hk : Kept2 d A B) : vX w w.heap.size c pre B := by
  obtain ⟨h1, h2, h3, h4⟩ := h
  exact ⟨h1, h2, h3.kept2 hk (by omega), h4.trans (hk.below (by omega) (by omega))⟩

set_option maxHeartbeats 1000000 in
theorem valid_calls (t : ByteArray) (w : World) :
    Calls Try.prog 20 #[.string t] w fun e w' => e = .returned (.bool (validN (S t))) ∧ Below w.heap.size w w' := by
  refine (callsIn_wide (n := 3)).1 ?_
  refine callsIn_of_wp_marks Try.func20 rfl trivial ?_ rfl
  simp only [Try.ntmps20, List.size_toArray, List.length_cons, List.length_nil, Nat.reduceAdd, Nat.reduceSub, Array.replicate_succ, Array.replicate_zero, List.push_toArray, List.append_toArray, List.nil_append, List.cons_append]
  by_cases hr : S t = [46]
  · have HV := Lib.hid (valid_root t hr)
    have hq := eqStr_true hr
    clear hr
    gi_wp2
    refine ⟨.bool true, ?_, ?_⟩
    · simp [results, Try.results20, go_sem]
    · rw [HV.out]
      exact ⟨rfl, (Below.refl _ _).alloc (Nat.le_refl _) _⟩
  by_cases h60 : 60 < t.size
  · have HV := Lib.hid (valid_long t hr h60)
    have hq := eqStr_false hr
    clear hr
    gi_wp2
    refine ⟨.bool false, ?_, ?_⟩
    · simp [results, Try.results20, go_sem]
    · rw [HV.out]
      exact ⟨rfl, (Below.refl _ _).alloc (Nat.le_refl _) _⟩
  have HV := Lib.hid (valid_go t hr h60)
  have hq := eqStr_false hr
  have d60 : decide ((60 : Int) < t.size) = false := by simp; omega
  clear hr
  gi_wp2
  obtain ⟨W0, hW0⟩ : ∃ W0, (((w.alloc (Obj.cells #[Value.bool false] 4)).alloc (Obj.cells #[Value.int IntKind.i64 0] 3)).alloc (Obj.cells #[Value.bool false] 4)) = W0 := ⟨_, rfl⟩
  have hsz : W0.heap.size = w.heap.size + 3 := by rw [← hW0]; simp
  have hI0 : vI w w.heap.size [] W0 := by
    refine ⟨vst_nil, by simp, ?_, ?_, ?_, ?_⟩
    · rw [← hW0]; exact ((Boxed.new w _ _).alloc _).alloc _
    · rw [← hW0]
      have := (Boxed.new (w.alloc (Obj.cells #[Value.bool false] 4)) 3 (Value.int IntKind.i64 0)).alloc (Obj.cells #[Value.bool false] 4)
      rw [World.size_alloc] at this; exact this
    · rw [← hW0]
      have := (Boxed.new ((w.alloc (Obj.cells #[Value.bool false] 4)).alloc (Obj.cells #[Value.int IntKind.i64 0] 3)) 4 (Value.bool false))
      rw [World.size_alloc, World.size_alloc] at this; exact this
    · rw [← hW0]; exact (((Below.refl _ w).alloc (Nat.le_refl _) _).alloc (by simp) _).alloc (by simp; omega) _
  rw [hW0]
  refine wpIn_rangeL (gf := 21) (first := #[.string t]) (lb := #[]) rfl (enters_of Try.func21 (by kernel_rfl) rfl) (back_seq t (by omega) w.heap.size W0) (by omega) (fun A B h => h ▸ Below.refl _ _) (fun _ => rfl)
    (vI w w.heap.size) (vX w w.heap.size) (fun pre A B h hz hk => vI_kept h hsz hz hk) (fun c pre A B h hz hk => vX_kept h hsz hz hk)
    (fun W hk => ?start)
    (fun x => { tmps := #[Value.string t, undef, Value.pointer (some ⟨w.heap.size, 0, none⟩), Value.pointer (some ⟨w.heap.size + 1, 0, none⟩), Value.pointer (some ⟨w.heap.size + 1 + 1, 0, none⟩), .string x, Value.string t, Value.bool false,
          Value.string t, Value.int IntKind.i64 ↑t.size, Value.bool false, Value.string t, Value.func (Fn.func 21) #[Value.string t] #[], .string x, undef, undef, undef, undef, undef, undef, undef, undef, undef, undef, undef, undef, undef, undef, undef, undef], defers := [] }) ?assign ?body ?done ?stop
  case start =>
    obtain ⟨h1, h2, h3, h4, h5, h6⟩ := hI0
    exact ⟨h1, h2, h3.kept2 hk (by omega), h4.kept2 hk (by omega), h5.kept2 hk (by omega), h6.trans (hk.below (by omega) (by omega))⟩
  case assign =>
    intro l x W K hK
    gi_wp2
    exact hK
  case body =>
    rintro l pre x post W hx hz ⟨h1, h2, h3, h4, h5, h6⟩
    clear hx hI0 hq d60 hW0 HV
    have c3 := h3.cell
    have f3 := h3.frozen
    have c4 := h4.cell
    have f4 := h4.frozen
    have c5 := h5.cell
    have f5 := h5.frozen
    have HB := Lib.hid (fun hb => vst_bad (x := S x) h1 hb)
    have HG := Lib.hid (fun hw hc hx => vst_snoc (x := S x) h1 hw hc hx)
    have HL : Hid ((pre.map S).length = pre.length) := by simp [Hid]
    have HZ := Lib.hid hsz
    clear h1 hsz
    by_cases hw : wildL (pre.map S) = true
    · rw [hw] at c5 h5
      have HX := Lib.hid (HB.out (.inl hw))
      clear hw
      gi_wp2
      have hsz := HZ.out
      refine ⟨((Same2.refl _ _).set (.inl (by omega)) _).set (.inl (by omega)) _, rfl, ?_, (h3.setOther (by omega) _).set _, (h6.set (by omega) _).set (by omega) _⟩
      intro ls; rw [List.map_append, List.append_assoc]; exact HX.out ls
    have hw' : wildL (pre.map S) = false := by simpa using hw
    rw [hw'] at c5 h5
    have HW := Lib.hid hw'
    clear hw hw'
    by_cases hc : 8 < pre.length + 1
    · have HX := Lib.hid (HB.out (.inr (.inl (by rw [HL.out]; exact hc))))
      gi_wp2
      have hsz := HZ.out
      refine ⟨((Same2.refl _ _).set (.inl (by omega)) _).set (.inl (by omega)) _, rfl, ?_, (h3.setOther (by omega) _).set _, (h6.set (by omega) _).set (by omega) _⟩
      intro ls; rw [List.map_append, List.append_assoc]; exact HX.out ls
    have dc : decide ((8 : Int) < (pre.length : Int) + 1) = false := by simp; omega
    by_cases hs : S x = [42]
    · have hq := eqStr_true hs
      have HX := Lib.hid (HG.out HW.out (by rw [HL.out]; omega) (.inl hs))
      have HS := Lib.hid hs
      clear hs
      gi_wp2
      refine ⟨trivial, ?_⟩
      gi_wp2
      have hsz := HZ.out
      refine ⟨((Same2.refl _ _).set (.inl (by omega)) _).set (.inl (by omega)) _, ((Below.refl _ _).set (by omega) _).set (by omega) _, ?_, by simp; omega, (h3.setOther (by omega) _).setOther (by omega) _, ?_, ?_, (h6.set (by omega) _).set (by omega) _⟩
      · rw [List.map_append]; exact HX.out
      · have := (h4.set (.int .i64 ((pre.length : Int) + 1))).setOther (c := w.heap.size + 1 + 1) (by omega) (.bool true)
        simpa using this
      · rw [List.map_append]
        have := (h5.setOther (c := w.heap.size + 1) (by omega) (.int .i64 ((pre.length : Int) + 1))).set (.bool true)
        simpa [wildL, HS.out] using this
    have hq := eqStr_false hs
    by_cases hlab : isLabel (S x) = true
    · have HX := Lib.hid (HG.out HW.out (by rw [HL.out]; omega) (.inr hlab))
      have HS := Lib.hid hs
      clear hs
      gi_wp2_with (refine ⟨trivial, ?_⟩; gi_at_call 24; refine (CallsIn.inRound l (callsIn_wide.2 (isLabel_calls _ _))).mono ?_; rintro e w' ⟨rfl, rfl⟩; rw [hlab])
      have hsz := HZ.out
      refine ⟨((Same2.refl _ _).set (.inl (by omega)) _).set (.inl (by omega)) _, ((Below.refl _ _).set (by omega) _).set (by omega) _, ?_, by simp; omega, (h3.setOther (by omega) _).setOther (by omega) _, ?_, ?_, (h6.set (by omega) _).set (by omega) _⟩
      · rw [List.map_append]; exact HX.out
      · have := (h4.set (.int .i64 ((pre.length : Int) + 1))).setOther (c := w.heap.size + 1 + 1) (by omega) (.bool false)
        simpa using this
      · rw [List.map_append]
        have := (h5.setOther (c := w.heap.size + 1) (by omega) (.int .i64 ((pre.length : Int) + 1))).set (.bool false)
        have e2 : wildL (List.map S pre ++ List.map S [x]) = false := by have h := HS.out; simp only [wildL, List.map_cons, List.map_nil, List.getLast?_concat]; simpa using h
        rw [e2]; exact this
    · have hlab' : isLabel (S x) = false := by simpa using hlab
      have HX := Lib.hid (HB.out (.inr (.inr ⟨hs, hlab'⟩)))
      clear hs hlab
      gi_wp2_with (refine ⟨trivial, ?_⟩; gi_at_call 24; refine (CallsIn.inRound l (callsIn_wide.2 (isLabel_calls _ _))).mono ?_; rintro e w' ⟨rfl, rfl⟩; rw [hlab'])
      have hsz := HZ.out
      refine ⟨(((Same2.refl _ _).set (.inl (by omega)) _).set (.inl (by omega)) _).set (.inl (by omega)) _, rfl, ?_, ((h3.setOther (by omega) _).setOther (by omega) _).set _, ((h6.set (by omega) _).set (by omega) _).set (by omega) _⟩
      intro ls; rw [List.map_append, List.append_assoc]; exact HX.out ls
  case done =>
    rintro W hz ⟨h1, h2, h3, h4, h5, h6⟩ hK
    have c3 := h3.cell
    have f3 := h3.frozen
    have HK := Lib.hid hK
    have H1 := Lib.hid h1
    have HZ := Lib.hid hsz
    clear hK h1 hsz hW0
    gi_wp2
    have hsz := HZ.out
    refine ⟨by simp, .inl ⟨_, _, rfl, run_takeDeferred (heap_set_other _ (by omega) HK.out), ?_⟩⟩
    have hc := ((h3.set (.bool true)).putOther (l := W0.heap.size) (by omega) (.deferred none)).cell
    refine ⟨.bool true, ?_, ?_⟩
    · simp [results, Try.results20, go_sem, hc]
    · have e1 : List.map S (List.map mk (back (S t))) = back (S t) := by simp [List.map_map, Function.comp_def]
      have h1 := H1.out []
      rw [e1, List.append_nil] at h1
      rw [HV.out, h1]
      exact ⟨rfl, (h6.set (by omega) _).put (by omega) _⟩
  case stop =>
    rintro c pre W hp hz ⟨rfl, h2, h3, h4⟩ hK
    have HZ := Lib.hid hsz
    clear hsz hW0
    gi_wp2
    have hsz := HZ.out
    refine ⟨by simp, .inl ⟨_, _, rfl, run_takeDeferred hK, ?_⟩⟩
    have hc := (h3.putOther (l := W0.heap.size) (by omega) (.deferred none)).cell
    refine ⟨.bool false, ?_, ?_⟩
    · simp [results, Try.results20, go_sem, hc]
    · obtain ⟨ls, hls⟩ := hp
      have e1 : back (S t) = List.map S pre ++ List.map S ls := by
        rw [← List.map_append, hls]; simp [List.map_map, Function.comp_def]
      rw [HV.out, e1, h2]
      exact ⟨rfl, h4.put (by omega) _⟩
end Go.Proofs.Ytijbggmofdgphaa
