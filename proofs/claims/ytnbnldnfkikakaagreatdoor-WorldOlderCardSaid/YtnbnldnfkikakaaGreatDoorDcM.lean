/-
  slices.Insert at []api.Signed, where there is no room: the walk.
-/
import Derived.Test.YtnbnldnfkikakaaGreatDoorTyM
import Derived.WalkKit
import Derived.Deep.LoopGhost
import Derived.Deep.RegionLaw
import Derived.Lib.Walk
import Derived.Lib.SliceRun
import Derived.Lib.AppendZerosOnto
import Derived.Laws.NewBlocks
import Derived.Shelf.RegionOpenPlain
import Derived.Shelf.Spec.SlicesInsert
import Derived.Lib.Hide
set_option linter.all false
namespace Go.Proofs.YtnbnldnfkikakaaGreatDoor
open NQ Go Go.RowKit Go.Lib
set_option maxHeartbeats 4000000 in
set_option maxRecDepth 1000000 in
theorem xJ (g n c i vb voff m vc N G : Nat) (w W1 W2 W3 : World) (u1 u2 : Value) (hi : i < n) (hm : 0 < m) (hnc : n <= c) (hroom : c < n + m) (hbig : (n + m) * 1000 <= 140737488355328) (hGn : n + m <= G) (hG63 : G <= 9223372036854775807)
 (hrz : ∀ ty, (Builtin.append_ #[34, 3] ty #[.slice (some ⟨g, 0, none⟩) i c, .int .i64 ((n : Int) + (m : Int) - (i : Int))]).run Tryz.prog w = .ok (.slice (some ⟨N, 0, none⟩) (n + m) G) W1)
 (hcpA : ∀ ty, (Builtin.copy_ #[34, 34] ty #[.slice (some ⟨N, i * 5, none⟩) (n + m - i) (G - i), .slice (some ⟨vb, voff, none⟩) m vc]).run Tryz.prog W1 = .ok u1 W2)
 (hcpB : ∀ ty, (Builtin.copy_ #[34, 34] ty #[.slice (some ⟨N, (i + m) * 5, none⟩) (n + m - (i + m)) (G - (i + m)), .slice (some ⟨g, i * 5, none⟩) (n - i) (c - i)]).run Tryz.prog W2.drew = .ok u2 W3) :
 Calls Tryz.prog 85 #[.slice (some ⟨g, 0, none⟩) n c, .int .i64 i, .slice (some ⟨vb, voff, none⟩) m vc] w fun e w' => e = .returned (.slice (some ⟨N, 0, none⟩) (n + m) G) /\ w' = W3 := by
 have mixed : Tryz.prog.follows .mixedOrders = true := by kernel_rfl
 have hz1 : ¬ ((m : Int) = 0) := by omega
 have hz2 : ¬ ((i : Int) = (n : Int)) := by omega
 have hz3 : (c : Int) < (n : Int) + (m : Int) := by omega
 have hGi : ¬ (G = i) := by omega
 have hGim : ¬ (G = i + m) := by omega
 have hci : ¬ (c = i) := by omega
 have hw1 : IntKind.i64.wrap ((i : Int) + (m : Int)) = (i : Int) + (m : Int) := by rw [IntKind.wrap_i64]; omega
 have hb1 : (0 : Int) <= (i : Int) + (m : Int) := by omega
 have hin : i <= n := by omega
 have htn : ((i : Int) + (m : Int)).toNat = i + m := by omega
 have hb3 : (i : Int) <= (n : Int) := by omega
 go_enter Tryz.func85, Tryz.ntmps85
 go_wp2_with (first
  | (at_builtin; refine Lib.wpList_append_run _ rfl _ _ _ _ rfl _ _ rfl rfl _ _ (hrz _) ?_)
  | (at_builtin; refine wpList_copy_runI _ rfl _ _ 34 34 rfl _ _ rfl rfl (hcpA _) ?_))
 go_region_law_o (refine step_copy_runI rfl _ _ 34 34 rfl (.slice (some ⟨N, (i + m) * 5, none⟩) (n + m - (i + m)) (G - (i + m))) (.slice (some ⟨g, i * 5, none⟩) (n - i) (c - i)) (by simp [Act.eval, Act.put]) (by simp [Act.eval, Act.put]) (hcpB 3) ?_)
 go_wp2
 go_ret
 exact ⟨rfl, rfl⟩
end Go.Proofs.YtnbnldnfkikakaaGreatDoor
