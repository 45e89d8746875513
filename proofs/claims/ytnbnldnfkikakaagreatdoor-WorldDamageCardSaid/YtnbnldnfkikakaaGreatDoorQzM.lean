/-
  Rows of one's own that are changed in place: cells.
-/
import Derived.Test.YtnbnldnfkikakaaGreatDoorMQt
import Derived.Laws.IdiomCopy
import Derived.Laws.CopyRow
set_option linter.all false
namespace NQ
open Go Go.RowKit
def RowsIn (w : World) (O : Nat -> Prop) (sz : Nat) (rows : List (List D)) (xs : List Value) : Prop :=
 ∀ i r j d, rows[i]? = some r -> r[j]? = some d -> ∃ u, xs[i * sz + j]? = some u /\ Rep w O d u
def gH (sz : Nat) (rows : List (List D)) : Prop := ∀ r ∈ rows, r.length = sz /\ ∀ d ∈ r, d.one = true
section
variable {w : World} {O : Nat -> Prop} {sz : Nat} {rows rows2 : List (List D)} {xs ys : List Value}
theorem RowsIn.take (h : RowsIn w O sz rows xs) (hr : gH sz rows) (n : Nat) : RowsIn w O sz (rows.take n) (xs.take (n * sz)) := fun i r j d hi hj => by
 rw [List.getElem?_take] at hi
 split at hi
 . rename_i hlt
   obtain ⟨u, hu, hd⟩ := h i r j d hi hj
   refine ⟨u, ?_, hd⟩
   have hj' : j < sz := by rw [<- (hr r (List.mem_of_getElem? hi)).1]; exact (List.getElem?_eq_some_iff.1 hj).1
   have : (i + 1) * sz <= n * sz := Nat.mul_le_mul_right _ hlt
   rw [Nat.add_mul] at this
   rw [List.getElem?_take, if_pos (by omega)]; exact hu
 . cases hi
theorem RowsIn.drop (h : RowsIn w O sz rows xs) (n : Nat) : RowsIn w O sz (rows.drop n) (xs.drop (n * sz)) := fun i r j d hi hj => by
 rw [List.getElem?_drop] at hi
 obtain ⟨u, hu, hd⟩ := h _ r j d hi hj
 refine ⟨u, ?_, hd⟩
 rw [List.getElem?_drop, <- hu, Nat.add_mul, Nat.add_assoc]
theorem RowsIn.append (h : RowsIn w O sz rows xs) (h2 : RowsIn w O sz rows2 ys) (hx : xs.length = rows.length * sz) : RowsIn w O sz (rows ++ rows2) (xs ++ ys) := fun i r j d hi hj => sh hx (aC.refl w O) h h2 i r j d hi hj
theorem gH.take (h : gH sz rows) (n : Nat) : gH sz (rows.take n) := fun r hr => h r (List.mem_of_mem_take hr)
theorem gH.drop (h : gH sz rows) (n : Nat) : gH sz (rows.drop n) := fun r hr => h r (List.mem_of_mem_drop hr)
theorem gH.append (h : gH sz rows) (h2 : gH sz rows2) : gH sz (rows ++ rows2) := fun r hr => by
 rcases List.mem_append.1 hr with hr | hr
 . exact h r hr
 . exact h2 r hr
theorem RowsIn.one (h : RowsIn w O sz rows xs) (hr : gH sz rows) (hsz : 0 < sz) (hx : xs.length = rows.length * sz) : ∀ u ∈ xs, u.oneCell' = true := fun u hu => by
 obtain ⟨q, hq, rfl⟩ := List.getElem_of_mem hu
 have h1 : q / sz < rows.length := Nat.div_lt_of_lt_mul (by rw [Nat.mul_comm]; omega)
 have h3 := hr _ (List.getElem_mem h1)
 have h4 : q % sz < (rows[q / sz]).length := by rw [h3.1]; exact Nat.mod_lt _ hsz
 obtain ⟨z, hz, hd⟩ := h _ _ _ _ (List.getElem?_eq_getElem h1) (List.getElem?_eq_getElem h4)
 rw [show q / sz * sz + q % sz = q by rw [Nat.mul_comm]; exact Nat.div_add_mod q sz, List.getElem?_eq_getElem hq] at hz
 cases hz
 exact hd.jU (h3.2 _ (List.getElem_mem h4))
end
end NQ
