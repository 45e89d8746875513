/-
  Plain definitions on names as lists of bytes, and their first lemmas; no program here.
-/
import Derived.Lib.Strings
import Derived.Lib.Bytealg
import Derived.Lib.LastIndexByte
import Derived.Lib.IndexBytes
namespace NP

abbrev Bs := List UInt8

/-- The bytes of a Go string. -/
def S (s : ByteArray) : Bs := s.data.toList
/-- The Go string of some bytes. -/
def mk (l : Bs) : ByteArray := ⟨l.toArray⟩

@[simp] theorem S_mk (l : Bs) : S (mk l) = l := by simp [S, mk]
@[simp] theorem mk_S (s : ByteArray) : mk (S s) = s := by cases s; simp [S, mk]
theorem S_inj {a b : ByteArray} (h : S a = S b) : a = b := by rw [← mk_S a, ← mk_S b, h]
theorem S_size (s : ByteArray) : s.size = (S s).length := by cases s; simp [S, ByteArray.size]
theorem S_toList (s : ByteArray) : s.toList = S s := Go.Lib.toList_data s
theorem S_extract (s : ByteArray) (a b : Nat) : S (s.extract a b) = ((S s).drop a).take (b - a) := Go.Lib.extract_data s a b

/-- What stands between the dots. -/
def splitDot : Bs → List Bs
  | [] => [[]]
  | c :: cs => if c = 46 then [] :: splitDot cs else
    match splitDot cs with
    | [] => [[c]]
    | h :: t => (c :: h) :: t

theorem splitDot_ne (s : Bs) : splitDot s ≠ [] := by
  cases s with
  | nil => simp [splitDot]
  | cons c cs =>
    unfold splitDot
    split
    · simp
    · split <;> simp

/-- No dot: one piece. -/
theorem splitDot_none (s : Bs) (h : (46 : UInt8) ∉ s) : splitDot s = [s] := by
  induction s with
  | nil => rfl
  | cons c cs ih =>
    simp only [List.mem_cons, not_or] at h
    rw [splitDot, if_neg (fun e => h.1 e.symm), ih h.2]

/-- A dot parts the pieces. -/
theorem splitDot_append (a b : Bs) : splitDot (a ++ 46 :: b) = splitDot a ++ splitDot b := by
  induction a with
  | nil => simp [splitDot]
  | cons c cs ih =>
    rw [List.cons_append, splitDot, splitDot]
    split
    · rw [ih]; rfl
    · rw [ih]
      have := splitDot_ne cs
      cases h : splitDot cs with
      | nil => exact absurd h this
      | cons x t => rfl

/-- The pieces, joined by dots. -/
def joinDot : List Bs → Bs
  | [] => []
  | [x] => x
  | x :: y :: t => x ++ 46 :: joinDot (y :: t)

theorem joinDot_cons (x : Bs) (t : List Bs) (h : t ≠ []) : joinDot (x :: t) = x ++ 46 :: joinDot t := by
  cases t with
  | nil => exact absurd rfl h
  | cons y t => rfl

theorem joinDot_splitDot (s : Bs) : joinDot (splitDot s) = s := by
  induction s with
  | nil => rfl
  | cons c cs ih =>
    unfold splitDot
    split
    · rename_i h
      rw [joinDot_cons _ _ (splitDot_ne cs), ih, h]; rfl
    · cases h : splitDot cs with
      | nil => exact absurd h (splitDot_ne cs)
      | cons x t =>
        rw [h] at ih
        cases t with
        | nil => simp only [joinDot] at ih ⊢; rw [ih]
        | cons y t => simp only [joinDot] at ih ⊢; rw [List.cons_append, ih]

theorem splitDot_joinDot (l : List Bs) (h0 : l ≠ []) (h : ∀ x ∈ l, (46 : UInt8) ∉ x) : splitDot (joinDot l) = l := by
  induction l with
  | nil => exact absurd rfl h0
  | cons x t ih =>
    cases t with
    | nil => exact splitDot_none x (h x (by simp))
    | cons y t =>
      rw [joinDot, splitDot_append, splitDot_none x (h x (by simp)), ih (by simp) (fun z hz => h z (List.mem_cons_of_mem _ hz))]
      rfl

/-- What the iterator yields: the labels from the last one on; nothing for the root. -/
def back (s : Bs) : List Bs := if s = [46] then [] else (splitDot s).reverse

/-- One step of the iterator. -/
theorem lastDot_spec (s : ByteArray) :
    (Go.Lib.lastIndexByte s 46 = -1 ∧ splitDot (S s) = [S s]) ∨
    (∃ i : Nat, i < s.size ∧ Go.Lib.lastIndexByte s 46 = i ∧ splitDot (S s) = splitDot (S (s.extract 0 i)) ++ [S (s.extract (i + 1) s.size)]) := by
  have hget : ∀ j (hj : j < s.size), s.data[j]! = (S s)[j]'(by rw [← S_size]; exact hj) := by
    intro j hj
    cases s with
    | mk d => simp [S, ByteArray.size] at hj ⊢; simp [hj]
  rcases Go.Lib.lastIndexByte_spec s 46 with ⟨h, hn⟩ | ⟨i, hi, h, hc, hn⟩
  · refine .inl ⟨h, splitDot_none _ ?_⟩
    intro hm
    obtain ⟨j, hj, e⟩ := List.getElem_of_mem hm
    have hj' : j < s.size := by rw [S_size]; exact hj
    have := hn j hj'
    rw [hget j hj', e] at this
    exact this rfl
  · refine .inr ⟨i, hi, h, ?_⟩
    have hi' : i < (S s).length := by rw [← S_size]; exact hi
    have e46 : (S s)[i] = 46 := by
      rw [hget i hi] at hc
      exact UInt8.toNat_inj.1 (by have := hc; simp at this ⊢; omega)
    have hs : S s = (S s).take i ++ 46 :: (S s).drop (i + 1) := by
      conv => lhs; rw [← List.take_append_drop i (S s)]
      rw [List.drop_eq_getElem_cons hi', e46]
    have hd : (46 : UInt8) ∉ (S s).drop (i + 1) := by
      intro hm
      obtain ⟨j, hj, e⟩ := List.getElem_of_mem hm
      rw [List.getElem_drop] at e
      have hj2 : i + 1 + j < s.size := by rw [S_size]; simp at hj; omega
      have := hn (i + 1 + j) (by omega) hj2
      rw [hget _ hj2, e] at this
      exact this rfl
    rw [S_extract, S_extract]
    conv => lhs; rw [hs]
    rw [splitDot_append, splitDot_none _ hd]
    congr 2
    rw [S_size, List.take_of_length_le (by simp)]

/-- A byte of a label. -/
def labelByte (c : UInt8) : Bool := (97 ≤ c && c ≤ 122) || (48 ≤ c && c ≤ 57) || c == 45

/-- A label. -/
def isLabel (l : Bs) : Bool := decide (1 ≤ l.length) && decide (l.length ≤ 12) && (l.head? != some 45) && (l.getLast? != some 45) && l.all labelByte

/-- The walk of 'valid' over the pieces from the last one on. -/
def vgo : Bool → Nat → List Bs → Bool
  | _, _, [] => true
  | wild, count, l :: ls => if wild || decide (8 < count + 1) then false else if l != [42] && !isLabel l then false else vgo (l == [42]) (count + 1) ls

/-- A text is a name. -/
def validN (s : Bs) : Bool := s == [46] || (decide (s.length ≤ 60) && vgo false 0 (back s))

end NP
