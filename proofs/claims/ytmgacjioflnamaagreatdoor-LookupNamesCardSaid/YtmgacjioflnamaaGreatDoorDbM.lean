/-
  slices.Delete at []api.Signed: contract on a row of the caller's.
-/
import Derived.Test.YtmgacjioflnamaaGreatDoorDaM
import Derived.Test.YtmgacjioflnamaaGreatDoorQzM
set_option linter.unusedSimpArgs false
set_option linter.unusedVariables false
namespace Go.Proofs.YtmgacjioflnamaaGreatDoor
open NQ Go Go.RowKit Go.Lib

theorem delete_fnr (rows : List (List D)) (fl : Bool) (i j : Nat) (hij : i < j) (hj : j ≤ rows.length) :
    FnR0 cx 114 true 41 5 rows fl [.int .i64 i, .int .i64 j] (rows.take i ++ rows.drop j) := by
  refine ⟨⟨_, Tryz.func114, by kernel_rfl, by kernel_rfl⟩, fun O w v vs xs hO hG hGO hv hown hfl hsz hrl hcell hvs hrep => ?_⟩
  have hvs2 := vals2 hvs
  have h0 := rep_int (hrep 0 _ rfl)
  have h1 := rep_int (hrep 1 _ rfl)
  rw [h0, h1] at hvs2
  rcases hown.2 with ⟨_, e2⟩ | ⟨g, cap, cur, e1, _, e3, e4, e5, e6, e7⟩
  · omega
  subst e1
  obtain ⟨n, hn⟩ : ∃ n, rows.length = n := ⟨_, rfl⟩
  rw [hn] at hown hj e4 e7 ⊢
  have hIn : NQ.RowsIn w O 5 rows xs := hcell
  have hOk : NQ.RowsOk 5 rows := hrl
  have hxl : xs.length = n * 5 := hown.1
  have hone := NQ.RowsIn.one hIn hOk hsz (by rw [hn]; exact hxl)
  obtain ⟨news, hnews⟩ : ∃ news, news = xs.drop (j * 5) := ⟨_, rfl⟩
  have hnl : news.length = (n - j) * 5 := by rw [hnews]; simp [hxl]; omega
  have hnone : ∀ u ∈ news, u.oneCell' = true := fun u hu => hone u (by rw [hnews] at hu; exact List.mem_of_mem_drop hu)
  have hget : ∀ t u, news[t]? = some u → cur[j * 5 + t]? = some u := fun t u hu => by
    rw [hnews, List.getElem?_drop, ← e7, List.getElem?_take] at hu
    split at hu
    · simpa using hu
    · cases hu
  have hdh : w.drew.heap[g]? = some (.cells cur 41 (0, 0)) := e3
  have hlen : 0 + i * 5 + news.length ≤ cur.size := by rw [hnl, e6]; omega
  have hW1 := setCells_setRow (w := w.drew) (o := 0 + i * 5) hdh hlen hnone
  obtain ⟨c1, hc1⟩ : ∃ c1 : Array Value, c1 = (cur.toList.take (0 + i * 5) ++ news ++ cur.toList.drop (0 + i * 5 + news.length)).toArray := ⟨_, rfl⟩
  rw [← hc1] at hW1
  have hc1s : c1.size = cur.size := by rw [hc1]; simp; omega
  have hg1 : (w.drew.setCells g (0 + i * 5) news).heap[g]? = some (.cells c1 41 (0, 0)) := by rw [hW1]; exact setRow_heap w.drew g cur _ _ _ hdh
  obtain ⟨m, hm⟩ : ∃ m, m = i + (n - j) := ⟨_, rfl⟩
  obtain ⟨zs, hzl, hcl⟩ : ∃ zs : List Value, zs.length = (n - m) * 5 ∧ ∀ ty, (Builtin.clear_ #[22] ty #[.slice (some ⟨g, m * 5, none⟩) (n - m) (cap - m)]).run cx.P (w.drew.setCells g (0 + i * 5) news) =
      .ok (.tuple #[]) ((w.drew.setCells g (0 + i * 5) news).setRow g (c1.toList.take (m * 5) ++ zs ++ c1.toList.drop (m * 5 + zs.length)).toArray) := by
    obtain ⟨zs, hz, hr⟩ := clear_run (w := w.drew.setCells g (0 + i * 5) news) (t := 22) (ty := 0) (e := 41) tyOk (show sliceElem cx 22 = some _ from rfl) rfl (g := g) (o := m * 5) (n := n - m) (c := cap - m) (by omega) hg1 (by rw [hc1s, e6]; show m * 5 + (n - m) * 5 ≤ cap * 5; omega)
    exact ⟨zs, hz, fun ty => hr⟩
  have hcalls := delete_calls g n cap i j w hij hj e4 (by simpa [maxLen] using e5) (if cap = j then ⟨g, 0, none⟩ else ⟨g, j * 5, none⟩) (by split <;> rfl) news hnl
    (fun t u hu => by
      have ht : t < (n - j) * 5 := by rw [← hnl]; exact (List.getElem?_eq_some_iff.1 hu).1
      rw [if_neg (by intro e; omega), addr_add]
      show w.cell? _ = _
      simp only [World.cell?, e3]
      exact hget t u hu) hnone
    (fun t ht => ⟨by show (w.cell? _).isSome = true; simp [World.cell?, e3, show 0 + i * 5 + t < cur.size by omega]; omega, by show w.frozen? _ = false; simp [World.frozen?, e3]⟩)
    _ rfl _ (by rw [← hm]; exact hcl)
  rw [hvs2]
  refine hcalls.mono ?_
  rintro en w' ⟨rfl, rfl⟩
  rw [← hm]
  have hlen' : (rows.take i ++ rows.drop j).length = m := by simp [hn]; omega
  have hx' : (c1.toList.take (m * 5) ++ zs ++ c1.toList.drop (m * 5 + zs.length)).toArray.toList.take (m * 5) = xs.take (i * 5) ++ news := by
    have a1 : (c1.toList.take (m * 5)).length = m * 5 := by simp [hc1s, e6]; omega
    rw [List.append_assoc]
    show List.take (m * 5) (c1.toList.take (m * 5) ++ _) = _
    rw [List.take_append_of_le_length (by omega), List.take_take, Nat.min_self, hc1]
    show List.take (m * 5) (cur.toList.take (0 + i * 5) ++ news ++ _) = _
    have a2 : (cur.toList.take (0 + i * 5) ++ news).length = m * 5 := by simp [hnl]; omega
    rw [List.take_append_of_le_length (by omega), ← a2, List.take_length, Nat.zero_add, ← e7, List.take_take, Nat.min_eq_left (by omega)]
  refine ⟨_, xs.take (i * 5) ++ news, rfl, ?_, ?_, ?_, ?_, fun k hk hne => ?_, fun g' hg' => .inl hg', ?_, hOk.take i |>.append (hOk.drop j), ?_⟩
  · rw [hW1]; rfl
  · rw [hW1]; rfl
  · rw [hW1]; rfl
  · rw [hW1]; simp
  · have hkg : k ≠ g := fun e => hne (by rw [e]; rfl)
    rw [setRow_other _ _ _ _ hkg, hW1, setRow_other _ _ _ _ hkg]; rfl
  · refine ⟨by rw [hlen']; simp [hnl, hxl]; omega, .inr ⟨g, cap, _, by rw [hlen'], Nat.zero_le _, setRow_heap _ g c1 _ _ _ hg1, by rw [hlen']; omega, e5, ?_, by rw [hlen']; exact hx'⟩⟩
    simp [hc1s, e6, hzl]; omega
  · rw [hnews]
    exact (hIn.take hOk i).append (hIn.drop j) (by simp [hxl, hn])
end Go.Proofs.YtmgacjioflnamaaGreatDoor
