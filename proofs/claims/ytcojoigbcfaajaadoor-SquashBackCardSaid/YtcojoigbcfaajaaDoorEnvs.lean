/- What a row's condition gives the walks of squash: the table of lengths. -/
import Derived.Test.YtcojoigbcfaajaaDoorSqB
import Derived.Test.YtcojoigbcfaajaaDoorRows
import Derived.Shelf.Vars
import Derived.Stop.LaidErr
import Derived.Lib.LaidTab
namespace Go.Proofs.YtcojoigbcfaajaaDoor
open Go Go.RowKit

theorem senv_of {W : World} (h : laidMet Tryd.prog [("chancery/squash.bases", Rows.laid_chancery_squash_bases)] W) : SEnv W := by
  have ht : Lib.TabIs Tryd.prog W "chancery/squash.bases" .i64 [11, 13, 17, 25, 41, 73, 137, 265] :=
    Lib.tabIs_of_head (g := 0) (t := 89) (e := 3) (n := 8) (rest := []) (by kernel_rfl) (by kernel_rfl) (by kernel_rfl) (by kernel_rfl) (by kernel_rfl) (by kernel_rfl) h
  intro k hk
  rw [ht.cell (g := 0) (by kernel_rfl) k hk]
  rcases (show k = 0 ∨ k = 1 ∨ k = 2 ∨ k = 3 ∨ k = 4 ∨ k = 5 ∨ k = 6 ∨ k = 7 by omega) with rfl | rfl | rfl | rfl | rfl | rfl | rfl | rfl <;> rfl
end Go.Proofs.YtcojoigbcfaajaaDoor
