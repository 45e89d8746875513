/-
  Texts of the proof of the law DenialComplete, merged in build order.
-/
import Derived.Lib.Strings
import Derived.Lib.Bytealg
import Derived.Lib.LastIndexByte
import Derived.Lib.IndexBytes
/-
  Plain definitions on names as lists of bytes, and their first lemmas; no program here.
-/
namespace NP

abbrev Bs := List UInt8

/-- The bytes of a Go string. -/
def S (s : ByteArray) : Bs := s.data.toList
/-- The Go string of some bytes. -/
def mk (l : Bs) : ByteArray := ⟨l.toArray⟩

@[simp] theorem S_mk (l : Bs) : S (mk l) = l := by simp [S, mk]
@[simp] theorem mk_S (s : ByteArray) : mk (S s) = s := by cases s; simp [S, mk]
theorem S_inj {a b : ByteArray} (h : S a = S b) : a = b := by rw [← mk_S a, ← mk_S b, h]
theorem S_size (s : ByteArray) : s.size = (S s).length := by cases s; simp [S, ByteArray.size]
theorem S_toList (s : ByteArray) : s.toList = S s := Go.Lib.toList_data s
theorem S_extract (s : ByteArray) (a b : Nat) : S (s.extract a b) = ((S s).drop a).take (b - a) := Go.Lib.extract_data s a b

/-- What stands between the dots. -/
def splitDot : Bs → List Bs
  | [] => [[]]
  | c :: cs => if c = 46 then [] :: splitDot cs else
    match splitDot cs with
    | [] => [[c]]
    | h :: t => (c :: h) :: t

theorem splitDot_ne (s : Bs) : splitDot s ≠ [] := by
  cases s with
  | nil => simp [splitDot]
  | cons c cs =>
    unfold splitDot
    split
    · simp
    · split <;> simp

/-- No dot: one piece. -/
theorem splitDot_none (s : Bs) (h : (46 : UInt8) ∉ s) : splitDot s = [s] := by
  induction s with
  | nil => rfl
  | cons c cs ih =>
    simp only [List.mem_cons, not_or] at h
    rw [splitDot, if_neg (fun e => h.1 e.symm), ih h.2]

/-- A dot parts the pieces. -/
theorem splitDot_append (a b : Bs) : splitDot (a ++ 46 :: b) = splitDot a ++ splitDot b := by
  induction a with
  | nil => simp [splitDot]
  | cons c cs ih =>
    rw [List.cons_append, splitDot, splitDot]
    split
    · rw [ih]; rfl
    · rw [ih]
      have := splitDot_ne cs
      cases h : splitDot cs with
      | nil => exact absurd h this
      | cons x t => rfl

/-- The pieces, joined by dots. -/
def joinDot : List Bs → Bs
  | [] => []
  | [x] => x
  | x :: y :: t => x ++ 46 :: joinDot (y :: t)

theorem joinDot_cons (x : Bs) (t : List Bs) (h : t ≠ []) : joinDot (x :: t) = x ++ 46 :: joinDot t := by
  cases t with
  | nil => exact absurd rfl h
  | cons y t => rfl

theorem joinDot_splitDot (s : Bs) : joinDot (splitDot s) = s := by
  induction s with
  | nil => rfl
  | cons c cs ih =>
    unfold splitDot
    split
    · rename_i h
      rw [joinDot_cons _ _ (splitDot_ne cs), ih, h]; rfl
    · cases h : splitDot cs with
      | nil => exact absurd h (splitDot_ne cs)
      | cons x t =>
        rw [h] at ih
        cases t with
        | nil => simp only [joinDot] at ih ⊢; rw [ih]
        | cons y t => simp only [joinDot] at ih ⊢; rw [List.cons_append, ih]

theorem splitDot_joinDot (l : List Bs) (h0 : l ≠ []) (h : ∀ x ∈ l, (46 : UInt8) ∉ x) : splitDot (joinDot l) = l := by
  induction l with
  | nil => exact absurd rfl h0
  | cons x t ih =>
    cases t with
    | nil => exact splitDot_none x (h x (by simp))
    | cons y t =>
      rw [joinDot, splitDot_append, splitDot_none x (h x (by simp)), ih (by simp) (fun z hz => h z (List.mem_cons_of_mem _ hz))]
      rfl

/-- What the iterator yields: the labels from the last one on; nothing for the root. -/
def back (s : Bs) : List Bs := if s = [46] then [] else (splitDot s).reverse

/-- One step of the iterator. -/
theorem lastDot_spec (s : ByteArray) :
    (Go.Lib.lastIndexByte s 46 = -1 ∧ splitDot (S s) = [S s]) ∨
    (∃ i : Nat, i < s.size ∧ Go.Lib.lastIndexByte s 46 = i ∧ splitDot (S s) = splitDot (S (s.extract 0 i)) ++ [S (s.extract (i + 1) s.size)]) := by
  have hget : ∀ j (hj : j < s.size), s.data[j]! = (S s)[j]'(by rw [← S_size]; exact hj) := by
    intro j hj
    cases s with
    | mk d => simp [S, ByteArray.size] at hj ⊢; simp [hj]
  rcases Go.Lib.lastIndexByte_spec s 46 with ⟨h, hn⟩ | ⟨i, hi, h, hc, hn⟩
  · refine .inl ⟨h, splitDot_none _ ?_⟩
    intro hm
    obtain ⟨j, hj, e⟩ := List.getElem_of_mem hm
    have hj' : j < s.size := by rw [S_size]; exact hj
    have := hn j hj'
    rw [hget j hj', e] at this
    exact this rfl
  · refine .inr ⟨i, hi, h, ?_⟩
    have hi' : i < (S s).length := by rw [← S_size]; exact hi
    have e46 : (S s)[i] = 46 := by
      rw [hget i hi] at hc
      exact UInt8.toNat_inj.1 (by have := hc; simp at this ⊢; omega)
    have hs : S s = (S s).take i ++ 46 :: (S s).drop (i + 1) := by
      conv => lhs; rw [← List.take_append_drop i (S s)]
      rw [List.drop_eq_getElem_cons hi', e46]
    have hd : (46 : UInt8) ∉ (S s).drop (i + 1) := by
      intro hm
      obtain ⟨j, hj, e⟩ := List.getElem_of_mem hm
      rw [List.getElem_drop] at e
      have hj2 : i + 1 + j < s.size := by rw [S_size]; simp at hj; omega
      have := hn (i + 1 + j) (by omega) hj2
      rw [hget _ hj2, e] at this
      exact this rfl
    rw [S_extract, S_extract]
    conv => lhs; rw [hs]
    rw [splitDot_append, splitDot_none _ hd]
    congr 2
    rw [S_size, List.take_of_length_le (by simp)]

/-- A byte of a label. -/
def labelByte (c : UInt8) : Bool := (97 ≤ c && c ≤ 122) || (48 ≤ c && c ≤ 57) || c == 45

/-- A label. -/
def isLabel (l : Bs) : Bool := decide (1 ≤ l.length) && decide (l.length ≤ 12) && (l.head? != some 45) && (l.getLast? != some 45) && l.all labelByte

/-- The walk of 'valid' over the pieces from the last one on. -/
def vgo : Bool → Nat → List Bs → Bool
  | _, _, [] => true
  | wild, count, l :: ls => if wild || decide (8 < count + 1) then false else if l != [42] && !isLabel l then false else vgo (l == [42]) (count + 1) ls

/-- A text is a name. -/
def validN (s : Bs) : Bool := s == [46] || (decide (s.length ≤ 60) && vgo false 0 (back s))

end NP

/-
  Plain laws on names: labels, order, tree. No program here.
-/
namespace NP

/-! ### Orders -/
structure Ord3 {α : Type} (cmp : α → α → Int) : Prop where
  range : ∀ a b, cmp a b = -1 ∨ cmp a b = 0 ∨ cmp a b = 1
  zero : ∀ a b, cmp a b = 0 ↔ a = b
  anti : ∀ a b, cmp b a = - cmp a b
  lt : ∀ a b c, cmp a b = -1 → cmp b c = -1 → cmp a c = -1

/-- Lists, element by element; a beginning comes first. -/
def cmpList {α : Type} (cmp : α → α → Int) : List α → List α → Int
  | [], [] => 0
  | [], _ :: _ => -1
  | _ :: _, [] => 1
  | a :: as, b :: bs => if cmp a b = 0 then cmpList cmp as bs else cmp a b

theorem cmpList_ord {α : Type} {cmp : α → α → Int} (h : Ord3 cmp) : Ord3 (cmpList cmp) where
  range := by
    intro a
    induction a with
    | nil => intro b; cases b <;> simp [cmpList]
    | cons x a ih =>
      intro b
      cases b with
      | nil => simp [cmpList]
      | cons y b =>
        unfold cmpList
        split
        · exact ih b
        · exact h.range x y
  zero := by
    intro a
    induction a with
    | nil => intro b; cases b <;> simp [cmpList]
    | cons x a ih =>
      intro b
      cases b with
      | nil => simp [cmpList]
      | cons y b =>
        unfold cmpList
        split
        · rename_i e
          rw [ih b, (h.zero x y).1 e]; simp
        · rename_i e
          have : x ≠ y := fun he => e ((h.zero x y).2 he)
          simp [e, this]
  anti := by
    intro a
    induction a with
    | nil => intro b; cases b <;> simp [cmpList]
    | cons x a ih =>
      intro b
      cases b with
      | nil => simp [cmpList]
      | cons y b =>
        unfold cmpList
        have := h.anti x y
        by_cases e : cmp x y = 0
        · rw [if_pos e, if_pos (by omega)]; exact ih b
        · rw [if_neg e, if_neg (by omega)]; exact this
  lt := by
    intro a
    induction a with
    | nil =>
      intro b c hb hc
      cases c with
      | nil => cases b <;> simp [cmpList] at hb hc
      | cons z c => simp [cmpList]
    | cons x a ih =>
      intro b c hb hc
      cases b with
      | nil => simp [cmpList] at hb
      | cons y b =>
        cases c with
        | nil => simp [cmpList] at hc
        | cons z c =>
          unfold cmpList at hb hc ⊢
          by_cases e1 : cmp x y = 0
          · rw [if_pos e1] at hb
            obtain rfl := (h.zero x y).1 e1
            by_cases e2 : cmp x z = 0
            · rw [if_pos e2] at hc ⊢; exact ih b c hb hc
            · rw [if_neg e2] at hc ⊢; exact hc
          · rw [if_neg e1] at hb
            by_cases e2 : cmp y z = 0
            · obtain rfl := (h.zero y z).1 e2
              rw [if_neg e1]; exact hb
            · rw [if_neg e2] at hc
              have := h.lt x y z hb hc
              rw [if_neg (by omega)]; exact this

def cmpByte (a b : UInt8) : Int := if a < b then -1 else if b < a then 1 else 0

theorem cmpByte_ord : Ord3 cmpByte where
  range := by intro a b; unfold cmpByte; split; simp; split <;> simp
  zero := by
    intro a b; unfold cmpByte
    split
    · rename_i h; simp; intro e; subst e; exact absurd h (UInt8.lt_irrefl a)
    · split
      · rename_i h; simp; intro e; subst e; exact absurd h (UInt8.lt_irrefl a)
      · rename_i h1 h2
        simp only [true_iff]
        exact UInt8.le_antisymm (UInt8.not_lt.1 h2) (UInt8.not_lt.1 h1)
  anti := by
    intro a b; unfold cmpByte
    by_cases h1 : a < b
    · rw [if_neg (UInt8.lt_asymm h1), if_pos h1, if_pos h1]; rfl
    · rw [if_neg h1, if_neg h1]
      by_cases h2 : b < a
      · rw [if_pos h2, if_pos h2]
      · rw [if_neg h2, if_neg h2]; rfl
  lt := by
    intro a b c h1 h2
    have k1 : a < b := by unfold cmpByte at h1; split at h1; assumption; split at h1 <;> simp at h1
    have k2 : b < c := by unfold cmpByte at h2; split at h2; assumption; split at h2 <;> simp at h2
    unfold cmpByte
    rw [if_pos (UInt8.lt_trans k1 k2)]

theorem compareBytes_eq (a b : Bs) : Go.Lib.compareBytes a b = cmpList cmpByte a b := by
  induction a generalizing b with
  | nil => cases b <;> rfl
  | cons x a ih =>
    cases b with
    | nil => rfl
    | cons y b =>
      unfold Go.Lib.compareBytes cmpList
      rw [ih b]
      have e : cmpByte x y = if x < y then -1 else if y < x then 1 else 0 := rfl
      by_cases h1 : x < y
      · rw [e]; simp [h1]
      · by_cases h2 : y < x
        · rw [e]; simp [h1, h2]
        · rw [e]; simp [h1, h2]

theorem compareBytes_ord : Ord3 Go.Lib.compareBytes := by
  have : Go.Lib.compareBytes = cmpList cmpByte := funext fun a => funext fun b => compareBytes_eq a b
  rw [this]; exact cmpList_ord cmpByte_ord

/-- The canonical order on lists of labels, from the last one on. -/
def cmpL (a b : List Bs) : Int := cmpList Go.Lib.compareBytes a b
theorem cmpL_ord : Ord3 cmpL := cmpList_ord compareBytes_ord

theorem Ord3.le_trans {α : Type} {cmp : α → α → Int} (h : Ord3 cmp) {a b c : α} (h1 : cmp a b ≤ 0) (h2 : cmp b c ≤ 0) : cmp a c ≤ 0 := by
  have r1 := h.range a b
  have r2 := h.range b c
  by_cases e1 : cmp a b = 0
  · rw [(h.zero a b).1 e1]; exact h2
  · by_cases e2 : cmp b c = 0
    · rw [← (h.zero b c).1 e2]; exact h1
    · have := h.lt a b c (by omega) (by omega); omega
theorem Ord3.lt_le {α : Type} {cmp : α → α → Int} (h : Ord3 cmp) {a b c : α} (h1 : cmp a b < 0) (h2 : cmp b c ≤ 0) : cmp a c < 0 := by
  have r1 := h.range a b
  have r2 := h.range b c
  by_cases e2 : cmp b c = 0
  · rw [← (h.zero b c).1 e2]; exact h1
  · have := h.lt a b c (by omega) (by omega); omega
theorem Ord3.le_lt {α : Type} {cmp : α → α → Int} (h : Ord3 cmp) {a b c : α} (h1 : cmp a b ≤ 0) (h2 : cmp b c < 0) : cmp a c < 0 := by
  have r1 := h.range a b
  have r2 := h.range b c
  by_cases e1 : cmp a b = 0
  · rw [(h.zero a b).1 e1]; exact h2
  · have := h.lt a b c (by omega) (by omega); omega

/-- What begins with a list does not come before it. -/
theorem cmpList_pre {α : Type} {cmp : α → α → Int} (h : Ord3 cmp) (p t : List α) : cmpList cmp p (p ++ t) ≤ 0 := by
  induction p with
  | nil => cases t <;> simp [cmpList]
  | cons x p ih =>
    show cmpList cmp (x :: p) (x :: (p ++ t)) ≤ 0
    unfold cmpList
    rw [if_pos ((h.zero x x).2 rfl)]; exact ih

/-- What lies between two lists that begin with a list begins with it. -/
theorem cmpList_between {α : Type} {cmp : α → α → Int} (h : Ord3 cmp) : ∀ (p s t b : List α), cmpList cmp (p ++ s) b ≤ 0 → cmpList cmp b (p ++ t) ≤ 0 → p <+: b
  | [], _, _, b, _, _ => List.nil_prefix
  | x :: p, s, t, [], h1, _ => by simp [cmpList] at h1
  | x :: p, s, t, y :: b, h1, h2 => by
    have e1 : cmpList cmp (x :: (p ++ s)) (y :: b) ≤ 0 := h1
    have e2 : cmpList cmp (y :: b) (x :: (p ++ t)) ≤ 0 := h2
    unfold cmpList at e1 e2
    have ha := h.anti x y
    have r := h.range x y
    by_cases e : cmp x y = 0
    · obtain rfl := (h.zero x y).1 e
      rw [if_pos e] at e1 e2
      exact List.cons_prefix_cons.2 ⟨rfl, cmpList_between h p s t b e1 e2⟩
    · rw [if_neg e] at e1
      rw [if_neg (by omega)] at e2
      omega

def labs (s : Bs) : List Bs := if s = [46] then [] else splitDot s
def nameOf (l : List Bs) : Bs := if l = [] then [46] else joinDot l

theorem back_eq (s : Bs) : back s = (labs s).reverse := by unfold back labs; split <;> simp
theorem nameOf_labs (s : Bs) : nameOf (labs s) = s := by
  unfold labs nameOf
  split
  · rename_i h; simp [h]
  · rw [if_neg (splitDot_ne s), joinDot_splitDot]
theorem labs_inj {a b : Bs} (h : labs a = labs b) : a = b := by rw [← nameOf_labs a, ← nameOf_labs b, h]

/-- The labels of a name: the first one may be a star. -/
def okL (l : List Bs) : Bool := decide (l.length ≤ 8) && match l with
  | [] => true
  | x :: t => (x == [42] || isLabel x) && t.all isLabel

theorem isLabel_star : isLabel [42] = false := by decide
theorem isLabel_ne {x : Bs} (h : isLabel x = true) : x ≠ [] := by
  intro e; subst e; simp [isLabel] at h
theorem isLabel_nodot {x : Bs} (h : isLabel x = true) : (46 : UInt8) ∉ x := by
  intro hm
  have : x.all labelByte = true := by unfold isLabel at h; simp only [Bool.and_eq_true] at h; exact h.2
  have := List.all_eq_true.1 this _ hm
  revert this; decide
theorem isLabel_len {x : Bs} (h : isLabel x = true) : x.length ≤ 12 := by
  unfold isLabel at h; simp only [Bool.and_eq_true, decide_eq_true_eq] at h; exact h.1.1.1.2

theorem vgo_snoc (w : Bool) (c : Nat) (l : List Bs) (x : Bs) :
    vgo w c (l ++ [x]) = (!w && decide (c + l.length + 1 ≤ 8) && l.all isLabel && (x == [42] || isLabel x)) := by
  induction l generalizing w c with
  | nil =>
    show vgo w c [x] = _
    simp only [vgo, List.length_nil, List.all_nil, Nat.add_zero, Bool.and_true]
    by_cases hw : w = true
    · simp [hw]
    · have : w = false := by simpa using hw
      subst this
      by_cases hc : 8 < c + 1
      · simp [hc]; omega
      · have h1 : c + 1 ≤ 8 := by omega
        simp only [hc, decide_false, Bool.or_false, Bool.false_eq_true, if_false, h1, decide_true, Bool.not_false, Bool.true_and]
        by_cases h2 : x = [42] <;> by_cases h3 : isLabel x = true <;> simp_all
  | cons y l ih =>
    show vgo w c (y :: (l ++ [x])) = _
    rw [vgo, ih]
    by_cases hw : w = true
    · simp [hw]
    · have : w = false := by simpa using hw
      subst this
      by_cases hy : y = [42]
      · subst hy
        simp [isLabel_star]
      · by_cases hl : isLabel y = true
        · by_cases hc : 8 < c + 1
          · simp [hc]; intro h; omega
          · have e : c + 1 + l.length + 1 = c + (l.length + 1) + 1 := by omega
            have hy' : (y == [42]) = false := by simpa using hy
            simp [hc, hy', hl, e]
        · have hl' : isLabel y = false := by simpa using hl
          simp [hy, hl']

theorem vgo_okL (l : List Bs) : vgo false 0 l.reverse = okL l := by
  cases l with
  | nil => rfl
  | cons x t =>
    rw [List.reverse_cons, vgo_snoc]
    simp only [okL, List.length_reverse, List.length_cons, List.all_reverse, Nat.zero_add, Bool.not_false, Bool.true_and]
    cases decide (t.length + 1 ≤ 8) <;> cases t.all isLabel <;> simp

theorem validN_eq (s : Bs) : validN s = (s == [46] || (decide (s.length ≤ 60) && okL (labs s))) := by
  unfold validN
  rw [back_eq, vgo_okL]

theorem valid_okL {s : Bs} (h : validN s = true) : okL (labs s) = true := by
  rw [validN_eq] at h
  simp only [Bool.or_eq_true, beq_iff_eq, Bool.and_eq_true] at h
  rcases h with h | h
  · subst h; decide
  · exact h.2
theorem valid_len {s : Bs} (h : validN s = true) : s.length ≤ 60 := by
  rw [validN_eq] at h
  simp only [Bool.or_eq_true, beq_iff_eq, Bool.and_eq_true, decide_eq_true_eq] at h
  rcases h with h | h
  · subst h; decide
  · exact h.1

theorem okL_mem {l : List Bs} (h : okL l = true) {x : Bs} (hx : x ∈ l) : x = [42] ∨ isLabel x = true := by
  cases l with
  | nil => cases hx
  | cons y t =>
    simp only [okL, Bool.and_eq_true, Bool.or_eq_true, beq_iff_eq] at h
    rcases List.mem_cons.1 hx with rfl | hx
    · exact h.2.1
    · exact .inr (List.all_eq_true.1 h.2.2 x hx)
theorem okL_ne {l : List Bs} (h : okL l = true) {x : Bs} (hx : x ∈ l) : x ≠ [] := by
  rcases okL_mem h hx with rfl | h
  · simp
  · exact isLabel_ne h
theorem okL_nodot {l : List Bs} (h : okL l = true) {x : Bs} (hx : x ∈ l) : (46 : UInt8) ∉ x := by
  rcases okL_mem h hx with rfl | h
  · decide
  · exact isLabel_nodot h
theorem okL_len {l : List Bs} (h : okL l = true) : l.length ≤ 8 := by
  simp only [okL, Bool.and_eq_true, decide_eq_true_eq] at h; exact h.1

/-- A label alone is no dot. -/
theorem joinDot_ne_dot {l : List Bs} (h0 : l ≠ []) (h : okL l = true) : joinDot l ≠ [46] := by
  intro e
  have hs := splitDot_joinDot l h0 (fun x hx => okL_nodot h hx)
  rw [e] at hs
  have : ([] : Bs) ∈ l := by rw [← hs]; decide
  exact okL_ne h this rfl
theorem labs_nameOf {l : List Bs} (h : okL l = true) : labs (nameOf l) = l := by
  unfold nameOf
  split
  · rename_i e; subst e; rfl
  · rename_i e
    unfold labs
    rw [if_neg (joinDot_ne_dot e h), splitDot_joinDot l e (fun x hx => okL_nodot h hx)]

theorem labs_nil {s : Bs} : labs s = [] ↔ s = [46] := by
  unfold labs
  split
  · simp [*]
  · rename_i h; simp [h, splitDot_ne]

theorem okL_tail {x : Bs} {t : List Bs} (h : okL (x :: t) = true) : okL t = true := by
  simp only [okL, Bool.and_eq_true, decide_eq_true_eq, List.length_cons] at h ⊢
  refine ⟨by omega, ?_⟩
  cases t with
  | nil => rfl
  | cons y t =>
    have := h.2.2
    simp only [List.all_cons, Bool.and_eq_true] at this
    simp [this]
theorem okL_suffix {a l : List Bs} (hs : a <:+ l) (h : okL l = true) : okL a = true := by
  obtain ⟨p, rfl⟩ := hs
  induction p with
  | nil => exact h
  | cons x p ih => exact ih (okL_tail h)

theorem joinDot_append (p t : List Bs) (hp : p ≠ []) (ht : t ≠ []) : joinDot (p ++ t) = joinDot p ++ 46 :: joinDot t := by
  induction p with
  | nil => exact absurd rfl hp
  | cons x p ih =>
    cases p with
    | nil => simp only [List.singleton_append]; rw [joinDot_cons x t ht]; rfl
    | cons y p => rw [List.cons_append, joinDot_cons _ _ (by simp), ih (by simp), joinDot_cons x (y :: p) (by simp)]; simp

/-- A name made of the last labels of a name is a name. -/
theorem valid_suffix {a : List Bs} {s : Bs} (hs : a <:+ labs s) (h : validN s = true) : validN (nameOf a) = true := by
  have hok := okL_suffix hs (valid_okL h)
  rw [validN_eq, labs_nameOf hok, hok]
  by_cases e : a = []
  · subst e; simp [nameOf]
  · obtain ⟨p, hp⟩ := hs
    have hl : (nameOf a).length ≤ 60 := by
      have h60 := valid_len h
      have hsne : labs s ≠ [] := by rw [← hp]; simp [e]
      have e1 : nameOf (labs s) = joinDot (labs s) := by simp [nameOf, hsne]
      rw [← nameOf_labs s, e1, ← hp] at h60
      simp only [nameOf, e, if_false]
      by_cases hp0 : p = []
      · subst hp0; simpa using h60
      · rw [joinDot_append p a hp0 e] at h60
        simp at h60; omega
    simp [hl]

/-! ### Parent, under, compare, common -/
def parentN (s : Bs) : Bs := nameOf (labs s).tail
def underN (s z : Bs) : Bool := (labs z).isSuffixOf (labs s)
def compareN (a b : Bs) : Int := cmpL (back a) (back b)
/-- The longest common beginning. -/
def lcp : List Bs → List Bs → List Bs
  | x :: a, y :: b => if x = y then x :: lcp a b else []
  | _, _ => []
def commonN (a b : Bs) : Bs := nameOf (lcp (back a) (back b)).reverse

theorem underN_iff (s z : Bs) : underN s z = true ↔ back z <+: back s := by
  rw [back_eq, back_eq, List.reverse_prefix]
  unfold underN; exact List.isSuffixOf_iff_suffix

theorem back_inj {a b : Bs} (h : back a = back b) : a = b := by
  rw [back_eq, back_eq] at h; exact labs_inj (List.reverse_inj.1 h)

theorem lcp_left (a b : List Bs) : lcp a b <+: a := by
  induction a generalizing b with
  | nil => cases b <;> simp [lcp]
  | cons x a ih =>
    cases b with
    | nil => simp [lcp]
    | cons y b =>
      unfold lcp
      split
      · exact List.cons_prefix_cons.2 ⟨rfl, ih b⟩
      · exact List.nil_prefix
theorem lcp_comm (a b : List Bs) : lcp a b = lcp b a := by
  induction a generalizing b with
  | nil => cases b <;> simp [lcp]
  | cons x a ih =>
    cases b with
    | nil => simp [lcp]
    | cons y b =>
      unfold lcp
      by_cases h : x = y
      · subst h; simp [ih b]
      · simp [h, Ne.symm h]
theorem lcp_right (a b : List Bs) : lcp a b <+: b := lcp_comm a b ▸ lcp_left b a
theorem lcp_most (a b c : List Bs) (h1 : c <+: a) (h2 : c <+: b) : c <+: lcp a b := by
  induction c generalizing a b with
  | nil => exact List.nil_prefix
  | cons z c ih =>
    cases a with
    | nil => simp at h1
    | cons x a =>
      cases b with
      | nil => simp at h2
      | cons y b =>
        obtain ⟨rfl, k1⟩ := List.cons_prefix_cons.1 h1
        obtain ⟨rfl, k2⟩ := List.cons_prefix_cons.1 h2
        unfold lcp
        rw [if_pos rfl]
        exact List.cons_prefix_cons.2 ⟨rfl, ih a b k1 k2⟩

end NP

/-
  Plain data of zones: sets of records, signatures, zones; the rules for data of each type; when a set is valid. No program here.
-/
namespace NP

structure Datum where
  text : Bs
  n : Int
  m : Int
  deriving DecidableEq
structure RSet where
  name : Bs
  type : Int
  life : Int
  data : List Datum
  deriving DecidableEq
structure Sig where
  zone : Bs
  key : Int
  alg : Int
  since : Int
  till : Int
  sum : Int
  deriving DecidableEq
structure Signed where
  set : RSet
  sigs : List Sig
  deriving DecidableEq
structure Zone where
  apex : Bs
  sets : List Signed
  deriving DecidableEq
structure Quest where
  name : Bs
  type : Int
  deriving DecidableEq

/-- What the data of a type are. -/
structure Rule where
  text : Int
  leastN : Int
  mostN : Int
  leastM : Int
  mostM : Int
  even : Bool
  single : Bool
  wild : Bool

def ruleOf (t : Int) : Rule :=
  if t = 1 then ⟨0, 1, 1000000, 0, 0, false, false, true⟩
  else if t = 2 then ⟨1, 0, 0, 0, 0, false, false, false⟩
  else if t = 3 then ⟨1, 0, 0, 0, 0, false, true, false⟩
  else if t = 4 then ⟨0, 0, 65535, 0, 100000, false, true, false⟩
  else if t = 5 then ⟨3, 0, 0, 0, 0, false, false, true⟩
  else if t = 6 then ⟨0, 1, 1000000, 1, 3, false, false, false⟩
  else if t = 7 then ⟨0, 1, 1000000, 1, 3, false, false, false⟩
  else if t = 8 then ⟨2, 2, 510, 0, 0, true, false, true⟩
  else ⟨0, 0, 0, 0, 0, false, false, false⟩

def within (x lo hi : Int) : Bool := decide (lo ≤ x) && decide (x ≤ hi)

/-- The first byte is a star. -/
def wildN (s : Bs) : Bool := s.head? == some 42

def freeByte (c : UInt8) : Bool := (97 ≤ c && c ≤ 122) || (48 ≤ c && c ≤ 57) || c == 32
/-- Letters, digits and blanks. -/
def freeN (s : Bs) : Bool := decide (1 ≤ s.length) && decide (s.length ≤ 40) && (s.head? != some 32) && (s.getLast? != some 32) && s.all freeByte

def validText (k : Int) (t : Bs) : Bool :=
  if k = 1 then validN t && !wildN t else if k = 2 then validN t else if k = 3 then freeN t else t == []
def validDatum (r : Rule) (d : Datum) : Bool :=
  within d.n r.leastN r.mostN && within d.m r.leastM r.mostM && (!r.even || d.n.tmod 2 == 0) && validText r.text d.text

def cmpInt (a b : Int) : Int := if a < b then -1 else if b < a then 1 else 0
/-- Data by text, then the two numbers. -/
def cmpData (a b : Datum) : Int :=
  if Go.Lib.compareBytes a.text b.text = 0 then (if cmpInt a.n b.n = 0 then cmpInt a.m b.m else cmpInt a.n b.n) else Go.Lib.compareBytes a.text b.text

end NP
