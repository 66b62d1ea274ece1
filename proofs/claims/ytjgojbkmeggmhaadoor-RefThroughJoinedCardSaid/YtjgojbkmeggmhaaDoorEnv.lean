/- What a row's condition and the shape of the world give the walks of cellref: the cell of MaxLen, the table of powers of ten. -/
import Derived.Test.YtjgojbkmeggmhaaDoorCrG
import Derived.Shelf.Vars
import Derived.Stop.LaidErr
namespace Go.Proofs.YtjgojbkmeggmhaaDoor
open Go Go.RowKit

theorem max_cell {W : World} (h : W.ShapedOpen Tryd.prog) : ∃ m, W.cell? ⟨1, 0, none⟩ = some (.int .i64 m) :=
  Go.Proofs.cell_of_shapedOpen_int (t := 3) (zero := #[.int .i64 0]) h (of_decide_eq_true (by kernel_rfl)) (by kernel_rfl) rfl (by kernel_rfl) (by kernel_rfl) (by kernel_rfl)

theorem pow_tab {W : World} {rest : List (String × DataW Unit)} (h : laidMet Tryd.prog (("internal/strconv.uint64pow10", Rows.laid_internal_strconv_uint64pow10) :: rest) W) : Lib.TabIs Tryd.prog W "internal/strconv.uint64pow10" .u64 Lib.pow10Tab :=
  Lib.tabIs_of_head (g := 6) (t := 195) (e := 126) (n := 20) (rest := rest) (by kernel_rfl) (by kernel_rfl) (by kernel_rfl) (by kernel_rfl) (by kernel_rfl) (by kernel_rfl) h

theorem env_of {W : World} {x y : String × DataW Unit} {rest : List (String × DataW Unit)} (hs : W.ShapedOpen Tryd.prog)
    (h : laidMet Tryd.prog (x :: y :: ("internal/strconv.uint64pow10", Rows.laid_internal_strconv_uint64pow10) :: rest) W) : Env W :=
  ⟨max_cell hs, pow_tab (laidMet.tail (laidMet.tail h))⟩
end Go.Proofs.YtjgojbkmeggmhaaDoor
