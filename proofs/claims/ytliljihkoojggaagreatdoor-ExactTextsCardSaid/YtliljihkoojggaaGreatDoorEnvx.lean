/- What a row's condition gives the walks of exact: the table of powers of ten. -/
import Derived.Test.YtliljihkoojggaaGreatDoorExR
import Derived.Test.YtliljihkoojggaaGreatDoorRows
import Derived.Shelf.Vars
import Derived.Stop.LaidErr
namespace Go.Proofs.YtliljihkoojggaaGreatDoor
open Go Go.RowKit

theorem pow_tab {W : World} {rest : List (String × DataW Unit)} (h : laidMet Tryz.prog (("internal/strconv.uint64pow10", Rows.laid_internal_strconv_uint64pow10) :: rest) W) : Lib.TabIs Tryz.prog W "internal/strconv.uint64pow10" .u64 Lib.pow10Tab :=
  Lib.tabIs_of_head (g := 1) (t := 138) (e := 79) (n := 20) (rest := rest) (by kernel_rfl) (by kernel_rfl) (by kernel_rfl) (by kernel_rfl) (by kernel_rfl) (by kernel_rfl) h

theorem tab_of {W : World} {x y : String × DataW Unit} {rest : List (String × DataW Unit)}
    (h : laidMet Tryz.prog (x :: y :: ("internal/strconv.uint64pow10", Rows.laid_internal_strconv_uint64pow10) :: rest) W) : Lib.TabIs Tryz.prog W "internal/strconv.uint64pow10" .u64 Lib.pow10Tab :=
  pow_tab (laidMet.tail (laidMet.tail h))
end Go.Proofs.YtliljihkoojggaaGreatDoor
