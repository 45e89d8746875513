/-
  Rows of one's own that are changed in place: cells.
-/
import Derived.Test.YtnbnldnfkikakaaGreatDoorMQt
import Derived.Laws.IdiomCopy
import Derived.Laws.CopyRow
set_option linter.all false
namespace NQ
open Go Go.RowKit
def RowsIn (w : World) (O : Nat -> Prop) (sz : Nat) (rows : List (List D)) (xs : List Value) : Prop :=
 ∀ i r j d, rows[i]? = some r -> r[j]? = some d -> ∃ u, xs[i * sz + j]? = some u /\ Rep w O d u
def eP (sz : Nat) (rows : List (List D)) : Prop := ∀ r ∈ rows, r.length = sz /\ ∀ d ∈ r, d.one = true
section
variable {w : World} {O : Nat -> Prop} {sz : Nat} {rows rows2 : List (List D)} {xs ys : List Value}
theorem RowsIn.take (h : RowsIn w O sz rows xs) (hr : eP sz rows) (n : Nat) : RowsIn w O sz (rows.take n) (xs.take (n * sz)) := fun i r j d hi hj => by
 rw [List.getElem?_take] at hi
 split at hi
 . rename_i hlt
   obtain ⟨u, hu, hd⟩ := h i r j d hi hj
   refine ⟨u, ?_, hd⟩
   have hj' : j < sz := by rw [<- (hr r (List.mem_of_getElem? hi)).1]; exact (List.getElem?_eq_some_iff.1 hj).1
   have : (i + 1) * sz <= n * sz := Nat.mul_le_mul_right _ hlt
   rw [Nat.add_mul] at this
   rw [List.getElem?_take, if_pos (by omega)]; exact hu
 . cases hi
theorem RowsIn.drop (h : RowsIn w O sz rows xs) (n : Nat) : RowsIn w O sz (rows.drop n) (xs.drop (n * sz)) := fun i r j d hi hj => by
 rw [List.getElem?_drop] at hi
 obtain ⟨u, hu, hd⟩ := h _ r j d hi hj
 refine ⟨u, ?_, hd⟩
 rw [List.getElem?_drop, <- hu, Nat.add_mul, Nat.add_assoc]
theorem RowsIn.append (h : RowsIn w O sz rows xs) (h2 : RowsIn w O sz rows2 ys) (hx : xs.length = rows.length * sz) : RowsIn w O sz (rows ++ rows2) (xs ++ ys) := fun i r j d hi hj => rQ hx (aB.refl w O) h h2 i r j d hi hj
theorem eP.take (h : eP sz rows) (n : Nat) : eP sz (rows.take n) := fun r hr => h r (List.mem_of_mem_take hr)
theorem eP.drop (h : eP sz rows) (n : Nat) : eP sz (rows.drop n) := fun r hr => h r (List.mem_of_mem_drop hr)
theorem eP.append (h : eP sz rows) (h2 : eP sz rows2) : eP sz (rows ++ rows2) := fun r hr => by
 rcases List.mem_append.1 hr with hr | hr
 . exact h r hr
 . exact h2 r hr
theorem RowsIn.one (h : RowsIn w O sz rows xs) (hr : eP sz rows) (hsz : 0 < sz) (hx : xs.length = rows.length * sz) : ∀ u ∈ xs, u.oneCell' = true := fun u hu => by
 obtain ⟨q, hq, rfl⟩ := List.getElem_of_mem hu
 have h1 : q / sz < rows.length := Nat.div_lt_of_lt_mul (by rw [Nat.mul_comm]; omega)
 have h3 := hr _ (List.getElem_mem h1)
 have h4 : q % sz < (rows[q / sz]).length := by rw [h3.1]; exact Nat.mod_lt _ hsz
 obtain ⟨z, hz, hd⟩ := h _ _ _ _ (List.getElem?_eq_getElem h1) (List.getElem?_eq_getElem h4)
 rw [show q / sz * sz + q % sz = q by rw [Nat.mul_comm]; exact Nat.div_add_mod q sz, List.getElem?_eq_getElem hq] at hz
 cases hz
 exact hd.iH (h3.2 _ (List.getElem_mem h4))
end
theorem s6 {cx : Cx} {w : World} {O : Nat -> Prop} (hT : aP cx) {t e ty : TypeId} {ei : TI} (hse : cA cx t = some (e, ei)) (hsz : 1 <= ei.size) {rows2 : List (List D)} {u v : Value} (hr : Rep w O (.slice ei.size rows2) u)
 {n : Nat} {xs : List Value} (hown : w.ownsRow 0 e ei.size v n xs) (hb1 : n + rows2.length <= maxLen) (hb2 : (n + rows2.length) * ei.bytes <= 140737488355328) :
 ∃ v' w' news, (Builtin.append_ #[t, t] ty #[v, u]).run cx.P w = .ok v' w' /\ w'.ownsRow 0 e ei.size v' (n + rows2.length) (xs ++ news) /\ w.grownBy w' v.ownBlock /\ (∀ g, home v' = some g -> home v = some g \/ w.heap.size <= g) /\
  (∀ r ∈ rows2, r.length = ei.size /\ ∀ d ∈ r, d.one = true) /\ ∀ i r j d, rows2[i]? = some r -> r[j]? = some d -> ∃ z, news[i * ei.size + j]? = some z /\ Rep w O d z := by
 obtain ⟨ti, ht, hkd, hei⟩ := b9 hse
 obtain ⟨_, _, _, _, t2, t3, _⟩ := hT _ _ ht
 rw [hkd] at t3; obtain rfl := bI t3
 obtain ⟨info, desc, zv, i1, i2, i3, i4, i5, i6, i7, i8, i9, i10⟩ := hT _ _ hei
 obtain ⟨ad, c, rfl, p1, p2⟩ : ∃ ad c, u = .slice ad rows2.length c /\ (∀ r ∈ rows2, r.length = ei.size /\ ∀ d ∈ r, d.one = true) /\
     (rows2 ≠ [] -> ∃ B off, ad = some ⟨B, off, none⟩ /\ ∀ i r j d, rows2[i]? = some r -> r[j]? = some d -> ∃ v, w.cell? ⟨B, off + (i * ei.size + j), none⟩ = some v /\ Rep w O d v) := by
  cases hr with
  | empty => exact ⟨_, _, rfl, fun r hr => by simp at hr, fun hne => absurd rfl hne⟩
  | slice _ _ B off n cap us hn hO hB hc hl h1 h2 =>
   subst hn
   exact ⟨_, _, rfl, hl, fun _ => ⟨B, off, rfl, fun i r j d hi hj => ⟨us i j, by rw [<- Nat.add_assoc]; exact h1 i r j d hi hj, h2 i r j d hi hj⟩⟩⟩
 by_cases hne : rows2 = []
 . subst hne
   have hv : ∃ base cap, v = .slice base n cap /\ n <= cap := by
    rcases hown.2 with ⟨rfl, rfl⟩ | ⟨g, cap, cur, rfl, _, _, h, _⟩
    . exact ⟨none, 0, rfl, Nat.le_refl _⟩
    . exact ⟨_, cap, rfl, h⟩
   obtain ⟨base, cap, rfl, hnc⟩ := hv
   refine ⟨_, w, [], mH cx.P w t2 i1 hnc ad c, by simpa using hown, ⟨rfl, rfl, rfl, Nat.le_refl _, fun _ _ _ => rfl⟩, fun g hg => .inl hg, p1, fun i r j d hi => by simp at hi⟩
 . obtain ⟨B, off, rfl, p3⟩ := p2 hne
   let f : Nat -> Value := fun q => (w.cell? ⟨B, off + q, none⟩).getD Go.undef
   have hq : ∀ q, q < rows2.length * ei.size -> ∃ r d, rows2[q / ei.size]? = some r /\ r[q % ei.size]? = some d /\ d.one = true := fun q hq => by
    have h1 : q / ei.size < rows2.length := Nat.div_lt_of_lt_mul (by rw [Nat.mul_comm]; exact hq)
    have h2 := List.getElem?_eq_getElem h1
    have h3 := p1 _ (List.getElem_mem h1)
    have h4 : q % ei.size < (rows2[q / ei.size]).length := by rw [h3.1]; exact Nat.mod_lt _ hsz
    exact ⟨_, _, h2, List.getElem?_eq_getElem h4, h3.2 _ (List.getElem_mem h4)⟩
   have hdm : ∀ q, q / ei.size * ei.size + q % ei.size = q := fun q => by rw [Nat.mul_comm]; exact Nat.div_add_mod q ei.size
   have hcell : ∀ q, q < rows2.length * ei.size -> w.cell? ⟨B, off + q, none⟩ = some (f q) /\ (f q).oneCell' = true := fun q hlt => by
    obtain ⟨r, d, h1, h2, h3⟩ := hq q hlt
    obtain ⟨z, hz, hd⟩ := p3 _ r _ d h1 h2
    rw [hdm] at hz
    have : f q = z := by simp [f, hz]
    rw [this]; exact ⟨hz, hd.iH h3⟩
   have hnl : ((List.range (rows2.length * ei.size)).map f).length = rows2.length * ei.size := by simp
   have hnews : ∀ j u, ((List.range (rows2.length * ei.size)).map f)[j]? = some u -> w.cell? ((⟨B, off, none⟩ : Addr).add j) = some u := fun j u hj => by
    have hlt : j < rows2.length * ei.size := by have := (List.getElem?_eq_some_iff.1 hj).1; simpa using this
    rw [dG]
    have : f j = u := by simpa [hlt] using hj
    rw [<- this]; exact (hcell j hlt).1
   have hone : ∀ u ∈ (List.range (rows2.length * ei.size)).map f, u.oneCell' = true := fun u hu => by
    obtain ⟨q, hq, rfl⟩ := List.mem_map.1 hu
    exact (hcell q (by simpa using hq)).2
   obtain ⟨v', w', r1, r2, r3, _⟩ := run_append_own (P := cx.P) w 0 t ty e info zv ei.size ei.bytes t2 i1 i6 i4 i5 (by rw [i7, <- i8]) hsz v n xs hown ⟨B, off, none⟩ rows2.length c _ hnl hnews hone hb1 hb2 (Nat.zero_le _)
   have hpos : 0 < rows2.length := List.length_pos_iff.2 hne
   refine ⟨v', w', _, r1, r2, r3, fun g hg => ?_, p1, fun i r j d hi hj => ?_⟩
   . have hm63 : n + rows2.length <= 9223372036854775807 := by simpa [maxLen] using hb1
     rcases hown.2 with ⟨rfl, rfl⟩ | ⟨g0, cap, cur, rfl, _, hg0, hnc, _, hcs, _⟩
     . have := run_append_nil (P := cx.P) w t ty e info zv t2 i1 i6 ⟨B, off, none⟩ rows2.length c _ (by rw [i4]; exact hnl) hnews hpos (by omega) (by rw [i5]; rw [Nat.zero_add] at hb2; omega)
       rw [this] at r1; cases r1; cases hg; exact .inr (Nat.le_refl _)
     . by_cases hroom : n + rows2.length <= cap
       . have := run_append_room (P := cx.P) w t ty e info t2 i1 g0 n cap cur hg0 ⟨B, off, none⟩ rows2.length c _ (by rw [i4]; exact hnl) hnews hone hroom (by rw [hnl, hcs, i4, <- Nat.add_mul]; exact Nat.mul_le_mul_right _ hroom)
         rw [this] at r1; cases r1; exact .inl hg
       . have := run_append_grow (P := cx.P) w t ty e info zv t2 i1 i6 ⟨g0, 0, none⟩ n cap xs (by rw [i4]; exact hown.1) (hown.cells (g := g0) rfl) ⟨B, off, none⟩ rows2.length c _ (by rw [i4]; exact hnl) hnews (by omega) (by omega) (by rw [i5]; exact growslice_fits (by omega) hb2)
         rw [this] at r1; cases r1; cases hg; exact .inr (Nat.le_refl _)
   . obtain ⟨z, hz, hd⟩ := p3 i r j d hi hj
     have hlt : i * ei.size + j < rows2.length * ei.size := by
      have h1 := (List.getElem?_eq_some_iff.1 hi).1
      have h2 := (List.getElem?_eq_some_iff.1 hj).1
      rw [(p1 r (List.mem_of_getElem? hi)).1] at h2
      have : (i + 1) * ei.size <= rows2.length * ei.size := Nat.mul_le_mul_right _ h1
      rw [Nat.add_mul] at this; omega
     refine ⟨z, ?_, hd⟩
     have : f (i * ei.size + j) = z := by simp [f, hz]
     simp [hlt, this]
end NQ
