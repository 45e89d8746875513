/-
  The walk of the law NameBelow.
-/
import Derived.Test.YtijbggmofdgphaaLb
import Derived.Test.YtijbggmofdgphaaLf
import Derived.OwnWalk
import Derived.Laws.AppendOwn
namespace NP
open Go Go.RowKit

/-- A row of the call's own that holds strings is a slice of strings. -/
theorem strs_of_owns {W : World} {base : Nat} {t : TypeId} {v : Value} {n : Nat} {ls : List Bs} (h : W.ownsRow base t 1 v n (ls.map fun x => Value.string (mk x))) (hn : ls.length = n) : Strs W v ls := by
  rcases h.2 with ⟨rfl, h0⟩ | ⟨g, cap, cur, rfl, _, hg, hc, _, hsz, htake⟩
  · subst h0; exact .inl ⟨_, _, rfl, List.length_eq_zero_iff.1 hn⟩
  · refine .inr ⟨g, 0, cap, by rw [hn], by omega, (Array.getElem?_eq_some_iff.1 hg).1, fun j x hj => ?_⟩
    have h1 : (ls.map fun x => Value.string (mk x))[j]? = some (.string (mk x)) := by rw [List.getElem?_map, hj]; rfl
    rw [← htake, List.getElem?_take] at h1
    split at h1
    · simp only [World.cell?, hg, Nat.zero_add]
      simpa using h1
    · cases h1

/-- The cells of a slice of strings, as an append reads them. -/
theorem strs_news {W W' : World} {B o n c : Nat} {ls : List Bs} (h : Strs W (.slice (some ⟨B, o, none⟩) n c) ls) (hb : Below W.heap.size W W') (j : Nat) (u : Value) (hj : (ls.map fun x => Value.string (mk x))[j]? = some u) : W'.cell? (Addr.add ⟨B, o, none⟩ j) = some u := by
  have h' := h.below hb
  rcases h' with ⟨_, _, _, rfl⟩ | ⟨B', o', c', e, _, hlt, hc⟩
  · simp at hj
  · simp only [Value.slice.injEq, Option.some.injEq, Addr.mk.injEq] at e
    obtain ⟨⟨rfl, rfl, _⟩, _, _⟩ := e
    rw [Go.WideShapes.add_plain]
    rw [List.getElem?_map] at hj
    cases hx : ls[j]? with
    | none => rw [hx] at hj; cases hj
    | some x => rw [hx] at hj; simp at hj; rw [← hj]; exact hc j x hx

/-- A new row of one string. -/
theorem owns_one (w : World) (t : TypeId) (x : Value) (base : Nat) (hb : base ≤ w.heap.size) : (w.alloc (.cells #[x] t)).ownsRow base t 1 (.slice (some ⟨w.heap.size, 0, none⟩) 1 1) 1 [x] :=
  ⟨rfl, .inr ⟨w.heap.size, 1, #[x], rfl, hb, World.alloc_heap_new w _, Nat.le_refl _, by simp [maxLen], rfl, rfl⟩⟩

theorem below_grown {w0 w w' : World} {o : Obj} (h0 : Below w0.heap.size w0 w) (hg : (w.alloc o).grownBy w' (some w.heap.size)) : Below w.heap.size w w' ∧ Below w0.heap.size w0 w' := by
  have h1 : Below w.heap.size w w' := ((Below.refl _ w).alloc (Nat.le_refl _) o).grown hg (by simp) (fun k e => by cases e; exact Nat.le_refl _)
  exact ⟨h1, h0.trans (h1.mono h0.size)⟩

/-- The name with one label more. -/
theorem below_facts {a : Bs} {l : Bs} (h : okL (l :: labs a) = true ∧ (nameOf (l :: labs a)).length ≤ 60) :
    validN (nameOf (l :: labs a)) = true ∧ underN (nameOf (l :: labs a)) a = true ∧ underN a (nameOf (l :: labs a)) = false ∧ compareN a (nameOf (l :: labs a)) = -1 := by
  have hv := joinR_ok h
  have hb : back (nameOf (l :: labs a)) = back a ++ [l] := by rw [back_eq, hv.2, back_eq]; simp
  refine ⟨hv.1, ?_, ?_, ?_⟩
  · rw [underN_iff, hb]; exact List.prefix_append _ _
  · rw [← Bool.not_eq_true, underN_iff, hb]
    intro h
    have := h.length_le
    rw [List.length_append, List.length_singleton] at this
    omega
  · unfold compareN cmpL
    rw [hb]
    exact cmpList_proper compareBytes_ord _ _
theorem below_same {a b : Bs} {l : Bs} (ha : okL (l :: labs a) = true ∧ (nameOf (l :: labs a)).length ≤ 60) (hb : okL (l :: labs b) = true ∧ (nameOf (l :: labs b)).length ≤ 60)
    (h1 : underN a b = false) (h2 : underN b a = false) : compareN (nameOf (l :: labs a)) (nameOf (l :: labs b)) = compareN a b := by
  have e1 : back (nameOf (l :: labs a)) = back a ++ [l] := by rw [back_eq, (joinR_ok ha).2, back_eq]; simp
  have e2 : back (nameOf (l :: labs b)) = back b ++ [l] := by rw [back_eq, (joinR_ok hb).2, back_eq]; simp
  unfold compareN cmpL
  rw [e1, e2]
  refine cmpList_apart compareBytes_ord _ _ _ _ ?_ ?_
  · intro h; rw [← underN_iff, h2] at h; cases h
  · intro h; rw [← underN_iff, h1] at h; cases h
end NP
namespace Go.Proofs.Ytijbggmofdgphaa
open Go.RowKit Go.Shelf NP

theorem info_string : (Try.prog.info? 9).map (fun i => (i.zero, i.size, i.bytes)) = some (some (.string ⟨#[]⟩), 1, 16) := by kernel_rfl

set_option maxRecDepth 100000 in
set_option maxHeartbeats 8000000 in
theorem NameBelow_walk (a b label : ByteArray) (w : World) :
    Calls Try.prog 8 #[.string a, .string b, .string label] w fun e w' => e = .returned (.bool true) ∧ Below w.heap.size w w' := by
  obtain ⟨i0, hi, hz0, hz1, hz2⟩ := info_parts info_string
  have HI := Lib.hid hi
  have HZ0 := Lib.hid hz0
  have HZ1 := Lib.hid hz1
  have HZ2 := Lib.hid hz2
  clear hi hz0 hz1 hz2
  go_enter Try.func8, Try.ntmps8
  go_wp2_with fail
  refine (head_calls _).mono ?_
  rintro e w1 ⟨rfl, hb1⟩
  go_wp2_with fail
  refine (names_calls _ [S a, S b] (by simp) (by simp) _ (strs2 _ _ _ _)).mono ?_
  rintro e w2 ⟨rfl, hb2⟩
  have hB := below_alloc hb1 hb2
  clear hb1 hb2
  by_cases hall : ([S a, S b] : List Bs).all validN = true
  rotate_left
  · have hall' : ([S a, S b] : List Bs).all validN = false := by simpa using hall
    rw [hall']
    clear hall hall'
    go_wp2
    go_ret
    exact ⟨rfl, hB⟩
  rw [hall]
  simp only [List.all_cons, List.all_nil, Bool.and_true, Bool.and_eq_true] at hall
  obtain ⟨va, vb⟩ := hall
  have HLA : Hid (labelsR (S a) = (labs (S a), 0)) := by unfold Hid labelsR; rw [if_pos va]
  have HLB : Hid (labelsR (S b) = (labs (S b), 0)) := by unfold Hid labelsR; rw [if_pos vb]
  go_wp2_with fail
  refine (Labels_calls _ _).mono ?_
  rintro e w3 ⟨u, rfl, hu0, hb', hua⟩
  replace hB := below_step hB hb'
  clear hb'
  rw [HLA.out] at hu0 ⊢
  have hu : Strs w3 u (labs (S a)) := hu0
  obtain ⟨B1, o1, rfl⟩ := hua va
  clear hu0
  go_wp2_with fail
  refine (Labels_calls _ _).mono ?_
  rintro e w4 ⟨v, rfl, hv0, hb', hvb⟩
  replace hu := hu.below hb'
  replace hB := below_step hB hb'
  clear hb'
  rw [HLB.out] at hv0 ⊢
  have hv : Strs w4 v (labs (S b)) := hv0
  obtain ⟨B2, o2, rfl⟩ := hvb vb
  clear hv0 hua hvb
  have na := okL_len (valid_okL va)
  have nb := okL_len (valid_okL vb)
  obtain ⟨n1, hn1⟩ : ∃ n, (labs (S a)).length = n := ⟨_, rfl⟩
  obtain ⟨n2, hn2⟩ : ∃ n, (labs (S b)).length = n := ⟨_, rfl⟩
  rw [hn1] at na hu ⊢
  rw [hn2] at nb hv ⊢
  have HN1 := Lib.hid hn1
  have HN2 := Lib.hid hn2
  have HU := Lib.hid hu
  have HV := Lib.hid hv
  clear hn1 hn2 hu hv HLA HLB
  have hzw4 := hB.size
  have ownw4 := owns_one w4 9 (.string label) w.heap.size hzw4
  have newsw4 := strs_news HU.out ((Below.refl _ w4).alloc (Nat.le_refl _) (.cells #[.string label] 9))
  have C1w4 : Hid (((labs (S a)).map fun x => Value.string (mk x)).length = n1 * 1) := by unfold Hid; rw [List.length_map, HN1.out]; omega
  have C2w4 : Hid (∀ u ∈ ((labs (S a)).map fun x => Value.string (mk x)), u.oneCell' = true) := by intro u hu; obtain ⟨x, _, rfl⟩ := List.mem_map.1 hu; rfl
  have C3w4 : Hid (1 + n1 ≤ maxLen) := by unfold Hid maxLen; omega
  have C4w4 : Hid ((1 + n1) * 16 ≤ 140737488355328) := by unfold Hid; omega
  have C5w4 : Hid (w.heap.size ≤ (w4.alloc (.cells #[.string label] 9)).heap.size) := by unfold Hid; simp; omega
  go_wp2_with (at_builtin; refine wpList_append_own _ rfl _ _ 26 rfl w.heap.size 9 i0 (.string ⟨#[]⟩) 1 16 Try.underlying26 HI.out HZ0.out HZ1.out HZ2.out rfl (by decide) _ 1 [.string label] rfl ownw4 ⟨B1, o1, none⟩ n1 n1 ((labs (S a)).map fun x => Value.string (mk x)) rfl C1w4.out newsw4 C2w4.out C3w4.out C4w4.out C5w4.out ?_; intro vw4 w5 hown5 hgrow _)
  obtain ⟨hbl, hB'⟩ := below_grown hB hgrow
  have hSt : Strs w5 vw4 (S label :: labs (S a)) := strs_of_owns (n := 1 + n1) (by simpa using hown5) (by simp [HN1.out]; omega)
  clear ownw4 newsw4 hown5 hgrow hB
  have hB := hB'
  clear hB'
  have HV5 := Lib.hid (HV.out.below hbl)
  clear hbl HU HV
  go_wp2_with fail
  refine (Join_calls _ _ _ hSt).mono ?_
  rintro e w6 ⟨rfl, hb'⟩
  have HV6 := Lib.hid (HV5.out.below hb')
  replace hB := below_step hB hb'
  clear hb' hSt HV5
  have hzw6 := hB.size
  have ownw6 := owns_one w6 9 (.string label) w.heap.size hzw6
  have newsw6 := strs_news HV6.out ((Below.refl _ w6).alloc (Nat.le_refl _) (.cells #[.string label] 9))
  have C1w6 : Hid (((labs (S b)).map fun x => Value.string (mk x)).length = n2 * 1) := by unfold Hid; rw [List.length_map, HN2.out]; omega
  have C2w6 : Hid (∀ u ∈ ((labs (S b)).map fun x => Value.string (mk x)), u.oneCell' = true) := by intro u hu; obtain ⟨x, _, rfl⟩ := List.mem_map.1 hu; rfl
  have C3w6 : Hid (1 + n2 ≤ maxLen) := by unfold Hid maxLen; omega
  have C4w6 : Hid ((1 + n2) * 16 ≤ 140737488355328) := by unfold Hid; omega
  have C5w6 : Hid (w.heap.size ≤ (w6.alloc (.cells #[.string label] 9)).heap.size) := by unfold Hid; simp; omega
  go_wp2_with (at_builtin; refine wpList_append_own _ rfl _ _ 26 rfl w.heap.size 9 i0 (.string ⟨#[]⟩) 1 16 Try.underlying26 HI.out HZ0.out HZ1.out HZ2.out rfl (by decide) _ 1 [.string label] rfl ownw6 ⟨B2, o2, none⟩ n2 n2 ((labs (S b)).map fun x => Value.string (mk x)) rfl C1w6.out newsw6 C2w6.out C3w6.out C4w6.out C5w6.out ?_; intro vw6 w7 hown7 hgrow _)
  obtain ⟨hbl, hB'⟩ := below_grown hB hgrow
  have hSt : Strs w7 vw6 (S label :: labs (S b)) := strs_of_owns (n := 1 + n2) (by simpa using hown7) (by simp [HN2.out]; omega)
  clear ownw6 newsw6 hown7 hgrow hB
  have hB := hB'
  clear hB'
  clear hbl HV6
  go_wp2_with fail
  refine (Join_calls _ _ _ hSt).mono ?_
  rintro e w8 ⟨rfl, hb'⟩
  replace hB := below_step hB hb'
  clear hb' hSt
  by_cases ha : okL (S label :: labs (S a)) = true ∧ (nameOf (S label :: labs (S a))).length ≤ 60
  rotate_left
  · have HR : Hid (joinR (S label :: labs (S a)) = ([], 11)) := by unfold Hid joinR; rw [if_neg ha]
    rw [HR.out]
    generalize joinR (S label :: labs (S b)) = jb
    obtain ⟨jb1, jb2⟩ := jb
    clear ha
    go_wp2
    go_ret
    exact ⟨rfl, hB⟩
  have HRA : Hid (joinR (S label :: labs (S a)) = (nameOf (S label :: labs (S a)), 0)) := by unfold Hid joinR; rw [if_pos ha]
  rw [HRA.out]
  by_cases hb : okL (S label :: labs (S b)) = true ∧ (nameOf (S label :: labs (S b))).length ≤ 60
  rotate_left
  · have HR : Hid (joinR (S label :: labs (S b)) = ([], 11)) := by unfold Hid joinR; rw [if_neg hb]
    rw [HR.out]
    clear ha hb
    go_wp2
    go_ret
    exact ⟨rfl, hB⟩
  have HRB : Hid (joinR (S label :: labs (S b)) = (nameOf (S label :: labs (S b)), 0)) := by unfold Hid joinR; rw [if_pos hb]
  rw [HRB.out]
  obtain ⟨f1, f2, f3, f4⟩ := below_facts ha
  obtain ⟨g1, g2, _, _⟩ := below_facts hb
  have s0 := below_same ha hb
  obtain ⟨X, hX⟩ : ∃ X : ByteArray, mk (nameOf (S label :: labs (S a))) = X := ⟨_, rfl⟩
  obtain ⟨Y, hY⟩ : ∃ Y : ByteArray, mk (nameOf (S label :: labs (S b))) = Y := ⟨_, rfl⟩
  have eX : S X = nameOf (S label :: labs (S a)) := by rw [← hX, S_mk]
  have eY : S Y = nameOf (S label :: labs (S b)) := by rw [← hY, S_mk]
  rw [show mk (nameOf (S label :: labs (S a)), (0 : Int)).1 = X from hX, show mk (nameOf (S label :: labs (S b)), (0 : Int)).1 = Y from hY]
  rw [← eX] at f1 f2 f3 f4 s0
  rw [← eY] at g1 g2 s0
  clear ha hb hX hY eX eY HRA HRB
  cases uab : underN (S a) (S b) with
  | true =>
    clear s0
    go_wp2_with (first | (go_at_call 13; refine (under_calls _ _ (by assumption) (by assumption) _).mono ?_; rintro e w' ⟨rfl, hb'⟩; replace hB := below_step hB hb'; clear hb') | (go_at_call 11; refine (compare_calls _ _ (by assumption) (by assumption) _).mono ?_; rintro e w' ⟨rfl, hb'⟩; replace hB := below_step hB hb'; clear hb'))
    go_ret
    exact ⟨rfl, hB⟩
  | false =>
    cases uba : underN (S b) (S a) with
    | true =>
      clear s0
      go_wp2_with (first | (go_at_call 13; refine (under_calls _ _ (by assumption) (by assumption) _).mono ?_; rintro e w' ⟨rfl, hb'⟩; replace hB := below_step hB hb'; clear hb') | (go_at_call 11; refine (compare_calls _ _ (by assumption) (by assumption) _).mono ?_; rintro e w' ⟨rfl, hb'⟩; replace hB := below_step hB hb'; clear hb'))
      go_ret
      exact ⟨rfl, hB⟩
    | false =>
      have s1 := s0 uab uba
      clear s0
      go_wp2_with (first | (go_at_call 13; refine (under_calls _ _ (by assumption) (by assumption) _).mono ?_; rintro e w' ⟨rfl, hb'⟩; replace hB := below_step hB hb'; clear hb') | (go_at_call 11; refine (compare_calls _ _ (by assumption) (by assumption) _).mono ?_; rintro e w' ⟨rfl, hb'⟩; replace hB := below_step hB hb'; clear hb'))
      go_ret
      exact ⟨ret_true (by simp), hB⟩
end Go.Proofs.Ytijbggmofdgphaa
