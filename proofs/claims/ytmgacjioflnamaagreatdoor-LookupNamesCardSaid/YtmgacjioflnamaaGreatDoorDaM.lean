/-
  slices.Delete at []api.Signed: what it does to a row of the caller's.
-/
import Derived.Test.YtmgacjioflnamaaGreatDoorTyM
import Derived.WalkKit
import Derived.Deep.LoopGhost
import Derived.Deep.RegionLaw
import Derived.Lib.Walk
import Derived.Lib.SliceRun
import Derived.Lib.SlicesDelete
import Derived.Shelf.RegionOpenPlain
import Derived.Lib.Hide
set_option linter.unusedSimpArgs false
set_option linter.unusedVariables false
namespace Go.Proofs.YtmgacjioflnamaaGreatDoor
open NQ Go Go.RowKit Go.Lib Go.Sort

set_option maxHeartbeats 4000000 in
set_option maxRecDepth 1000000 in
theorem delete_calls (g n cap i j : Nat) (w : World) (hij : i < j) (hj : j ≤ n) (hn : n ≤ cap) (hcap : cap ≤ 9223372036854775807) (A : Addr) (hA : (if cap = j then some (⟨g, 0, none⟩ : Addr) else some ⟨g, j * 5, none⟩) = some A)
    (news : List Value) (s1 : Hid (news.length = (n - j) * 5)) (hsrc : Hid (∀ t u, news[t]? = some u → w.drew.cell? (A.add t) = some u)) (s2 : Hid (∀ u ∈ news, u.oneCell' = true))
    (s3 : Hid (∀ t, t < news.length → (w.drew.cell? ⟨g, 0 + i * 5 + t, none⟩).isSome = true ∧ w.drew.frozen? ⟨g, 0 + i * 5 + t, none⟩ = false))
    (W1 : World) (hW : Hid (W1 = w.drew.setCells g (0 + i * 5) news)) (W2 : World)
    (hcl : ∀ ty, (Builtin.clear_ #[22] ty #[.slice (some ⟨g, (i + (n - j)) * 5, none⟩) (n - (i + (n - j))) (cap - (i + (n - j)))]).run Tryz.prog W1 = .ok (.tuple #[]) W2) :
    Calls Tryz.prog 114 #[.slice (some ⟨g, 0, none⟩) n cap, .int .i64 i, .int .i64 j] w fun e w' => e = .returned (.slice (some ⟨g, 0, none⟩) (i + (n - j)) cap) ∧ w' = W2 := by
  obtain ⟨info, hi0, hz1⟩ : ∃ info, Tryz.prog.info? 41 = some info ∧ info.size = 5 := by
    obtain ⟨info, desc, z, h1, h2, h3, h4, h5⟩ := tyOk 41 _ rfl
    exact ⟨info, h1, h4⟩
  have mixed : Tryz.prog.follows .mixedOrders = true := by kernel_rfl
  have hic : i ≤ cap := by omega
  have hjc : j ≤ cap := by omega
  go_enter Tryz.func114, Tryz.ntmps114
  go_wp2_with fail
  go_region_law_o (refine step_append_room rfl (.tmp 22) (.tmp 25) 22 rfl 41 info 5 Tryz.underlying22 hi0 hz1 g 0 i cap (by simp [Act.eval, Act.put]) A (n - j) (cap - j) news (by simp [Act.eval, Act.put]) s1.out hsrc.out s2.out (by omega) s3.out ?_; rw [← hW.out])
  go_wp2
  go_ret
  exact ⟨rfl, rfl⟩
end Go.Proofs.YtmgacjioflnamaaGreatDoor
