/-
  Contracts of puller and of the function that it returns.
-/
import Derived.Test.YtijbggmofdgphaaNd
namespace NP
open Go Go.RowKit

/-- Of two blocks alone something has turned. -/
structure Touch2 (a b : Nat) (W W' : World) : Prop where
  os : W'.os = W.os
  tape : W'.tape = W.tape
  output : W'.output = W.output
  size : W'.heap.size = W.heap.size
  block : ∀ k, k ≠ a → k ≠ b → W'.heap[k]? = W.heap[k]?

theorem Touch2.refl (a b : Nat) (W : World) : Touch2 a b W W := ⟨rfl, rfl, rfl, rfl, fun _ _ _ => rfl⟩
theorem Touch2.set1 {a b : Nat} {A W : World} (h : Touch2 a b A W) (v : Value) : Touch2 a b A (W.setCell ⟨a, 0, none⟩ v) :=
  ⟨h.os, h.tape, h.output, by rw [← h.size]; simp [World.setCell], fun k h1 h2 => (Below.heap_setCell W ⟨a, 0, none⟩ v k h1).trans (h.block k h1 h2)⟩
theorem Touch2.set2 {a b : Nat} {A W : World} (h : Touch2 a b A W) (v : Value) : Touch2 a b A (W.setCell ⟨b, 0, none⟩ v) :=
  ⟨h.os, h.tape, h.output, by rw [← h.size]; simp [World.setCell], fun k h1 h2 => (Below.heap_setCell W ⟨b, 0, none⟩ v k h2).trans (h.block k h1 h2)⟩
theorem Touch2.below {a b B0 : Nat} {W W' : World} (h : Touch2 a b W W') (ha : B0 ≤ a) (hb : B0 ≤ b) : Below B0 W W' :=
  ⟨h.os, h.tape, h.output, Nat.le_of_eq h.size.symm, fun k hk => h.block k (by omega) (by omega)⟩
theorem Touch2.same2 {a b d : Nat} {W W' : World} (h : Touch2 a b W W') (ha : a < d) (hb : b < d) : Same2 d W W' :=
  ⟨h.block d (by omega) (by omega), h.block (d + 1) (by omega) (by omega)⟩
theorem Touch2.boxed {a b k : Nat} {W W' : World} {t : TypeId} {v : Value} (h : Touch2 a b W W') (hx : Boxed W k t v) (h1 : k ≠ a) (h2 : k ≠ b) : Boxed W' k t v := (h.block k h1 h2).trans hx

/-- What the puller with the two variables still gives. -/
def Pull (tb ts : TypeId) (W : World) (bm br : Nat) (ls : List ByteArray) : Prop :=
  ∃ (m : Bool) (rest : ByteArray), Boxed W bm tb (.bool m) ∧ Boxed W br ts (.string rest) ∧ rest.size ≤ 140737488355328 ∧ ((m = false ∧ ls = []) ∨ (m = true ∧ ls = ((splitDot (S rest)).reverse).map mk))

theorem Pull.moved {tb ts : TypeId} {W W' : World} {bm br : Nat} {ls : List ByteArray} (h : Pull tb ts W bm br ls) (hm : W'.heap[bm]? = W.heap[bm]?) (hr : W'.heap[br]? = W.heap[br]?) : Pull tb ts W' bm br ls := by
  obtain ⟨m, rest, h1, h2, h3⟩ := h
  exact ⟨m, rest, hm.trans h1, hr.trans h2, h3⟩

/-- What a call of the puller's function gives. -/
def NextPost (tb ts : TypeId) (bm br : Nat) (ls : List ByteArray) (W : World) (e : Ending) (W' : World) : Prop :=
  (ls = [] ∧ e = .returned (.tuple #[.string (mk []), .bool false]) ∧ W = W') ∨
  (∃ x t, ls = x :: t ∧ e = .returned (.tuple #[.string x, .bool true]) ∧ Pull tb ts W' bm br t ∧ Touch2 bm br W W')
end NP

namespace Go.Proofs.Ytijbggmofdgphaa
open Go.RowKit Go.Shelf NP

set_option maxHeartbeats 400000 in
theorem puller_calls (t : ByteArray) (ht : t.size ≤ 140737488355328) (w : World) :
    Calls Try.prog 23 #[.string t] w fun e w' => e = .returned (.func (.func 30) #[] #[.pointer (some ⟨w.heap.size + 1, 0, none⟩), .pointer (some ⟨w.heap.size, 0, none⟩)]) ∧
      Pull 4 9 w' (w.heap.size + 1) w.heap.size ((back (S t)).map mk) ∧ Below w.heap.size w w' ∧ w'.heap.size = w.heap.size + 2 := by
  have key : ∀ (m : Bool), ((m = false ∧ S t = [46]) ∨ (m = true ∧ ¬ S t = [46])) → Pull 4 9 ((w.alloc (.cells #[.string t] 9)).alloc (.cells #[.bool m] 4)) (w.heap.size + 1) w.heap.size ((back (S t)).map mk) := by
    intro m hm
    have h1 := Boxed.new (w.alloc (.cells #[.string t] 9)) 4 (.bool m)
    rw [World.size_alloc] at h1
    refine ⟨m, t, h1, (Boxed.new w _ _).alloc _, ht, ?_⟩
    rcases hm with ⟨rfl, h⟩ | ⟨rfl, h⟩
    · exact .inl ⟨rfl, by simp [back, h]⟩
    · exact .inr ⟨rfl, by simp [back, h]⟩
  by_cases hr : S t = [46]
  · have hq := eqStr_true hr
    have HK := Lib.hid (key false (.inl ⟨rfl, hr⟩))
    clear key hr
    go_enter Try.func23, Try.ntmps23
    go_wp2
    go_ret
    exact ⟨rfl, HK.out, ((Below.refl _ w).alloc (Nat.le_refl _) _).alloc (by simp) _, by simp⟩
  · have hq := eqStr_false hr
    have HK := Lib.hid (key true (.inr ⟨rfl, hr⟩))
    clear key hr
    go_enter Try.func23, Try.ntmps23
    go_wp2
    go_ret
    exact ⟨rfl, HK.out, ((Below.refl _ w).alloc (Nat.le_refl _) _).alloc (by simp) _, by simp⟩

set_option maxHeartbeats 400000 in
theorem next_calls (bm br : Nat) (hne : bm ≠ br) (ls : List ByteArray) (W : World) (h : Pull 4 9 W bm br ls) :
    Calls Try.prog 30 #[.pointer (some ⟨bm, 0, none⟩), .pointer (some ⟨br, 0, none⟩)] W (NextPost 4 9 bm br ls W) := by
  obtain ⟨m, rest, h1, h2, hsz, ⟨rfl, rfl⟩ | ⟨rfl, rfl⟩⟩ := h
  · have c1 := h1.cell
    go_enter Try.func30, Try.ntmps30
    go_wp2
    go_ret2
    exact .inl ⟨rfl, rfl, rfl⟩
  · have c1 := h1.cell
    have c2 := h2.cell
    have f1 := h1.frozen
    have f2 := h2.frozen
    rcases lastDot_spec rest with ⟨hi, hsp⟩ | ⟨i, hilt, hi, hsp⟩
    · have HI := Lib.hid hi
      have HE : Hid (((splitDot (S rest)).reverse).map mk = [rest]) := by unfold Hid; rw [hsp]; simp
      have hz : rest.extract 0 rest.size = rest := by apply S_inj; rw [S_extract, S_size]; simp
      clear hi hsp
      go_enter Try.func30, Try.ntmps30
      go_wp2_with (go_at_call 28; refine (Try.strings_LastIndexByte _ _ (by omega) _).mono ?_; rintro e w' ⟨rfl, rfl⟩; rw [HI.out])
      go_ret2
      rw [HE.out]
      exact .inr ⟨rest, [], rfl, rfl, ⟨false, rest, h1.set _, h2.setOther (Ne.symm hne) _, hsz, .inl ⟨rfl, rfl⟩⟩, (Touch2.refl bm br _).set1 _⟩
    · have HI := Lib.hid hi
      have HE : Hid (((splitDot (S rest)).reverse).map mk = rest.extract (i + 1) rest.size :: ((splitDot (S (rest.extract 0 i))).reverse).map mk) := by unfold Hid; rw [hsp]; simp
      have hi1 : i + 1 ≤ rest.size := hilt
      have HX : Hid ((rest.extract 0 i).size = i) := by unfold Hid; rw [S_size, S_extract, List.length_take, List.length_drop, ← S_size]; omega
      clear hi hsp
      go_enter Try.func30, Try.ntmps30
      go_wp2_with (go_at_call 28; refine (Try.strings_LastIndexByte _ _ (by omega) _).mono ?_; rintro e w' ⟨rfl, rfl⟩; rw [HI.out])
      go_ret2
      rw [HE.out]
      exact .inr ⟨_, _, rfl, rfl, ⟨true, rest.extract 0 i, h1.setOther hne _, h2.set _, by rw [HX.out]; omega, .inr ⟨rfl, rfl⟩⟩, (Touch2.refl bm br _).set2 _⟩
end Go.Proofs.Ytijbggmofdgphaa
