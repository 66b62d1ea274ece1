/- refs: references are written and read; the law RefColumnsBack. -/
import Derived.Test.YtjgojbkmeggmhaaDoorCrV
namespace Go.Proofs.YtjgojbkmeggmhaaDoor
open Go.RowKit

abbrev exampleL : List UInt8 := [39, 97, 32, 98, 39, 33, 36, 67, 52]
abbrev exampleR : Ref := ⟨⟨#[97, 32, 98]⟩, 0, 3, 2, 0, 0, false, true, false, false⟩

theorem scan_example : Cr.scanQ [97, 32, 98, 39, 33, 36, 67, 52] = some ([97, 32, 98], [33, 36, 67, 52]) := by
  rw [Cr.scanQ_other _ (by decide), Cr.scanQ_other _ (by decide), Cr.scanQ_other _ (by decide), Cr.scanQ_end (by decide)]
  rfl
theorem sheet_example : Cr.sheetF exampleL = ([97, 32, 98], [36, 67, 52], true) := by
  unfold Cr.sheetF exampleL
  rw [if_pos (by decide)]
  show (match Cr.scanQ [97, 32, 98, 39, 33, 36, 67, 52] with
    | none => ([], [], false)
    | some (b, r) => (b, Lib.trimPrefix r [33], Lib.hasPrefix r [33] && decide (b ≠ []))) = _
  rw [scan_example]
  decide
theorem halves_example : halves exampleL = ⟨[97, 32, 98], true, false, ⟨[67], [52], true, false⟩, true, ⟨[67], [52], true, false⟩, true⟩ := by
  unfold halves
  rw [sheet_example]
  rfl
theorem ref_example : (halves exampleL).ref = exampleR := by
  rw [halves_example]
  rfl
theorem ord_example : exampleR.ordered = exampleR := rfl
theorem check_example : exampleR.check = 0 := by decide +kernel
theorem parse_example : parseF exampleL = (exampleR, 0) := by
  rw [parseF, if_neg (by decide), if_neg (by decide)]
  simp only [ref_example, ord_example, check_example]
  rw [halves_example]
  rfl
theorem text_example : exampleR.text = exampleL := by
  unfold Ref.text
  rw [if_pos (show exampleR.kind = 0 from rfl)]
  have h1 : Cr.colS exampleR.col exampleR.ac = [36, 67] := by
    unfold Cr.colS
    rw [show exampleR.col.toNat + 1 = 3 from rfl, Cr.lt_pos (by decide), show (3 - 1) / 26 = 0 from rfl, Cr.lt_zero]
    rfl
  have h2 : Cr.sheetS exampleR.sheet.data.toList = [39, 97, 32, 98, 39, 33] := by decide +kernel
  have h3 : Cr.rowS exampleR.row exampleR.ar = [52] := by decide +kernel
  rw [h1, h2, h3]
  rfl

theorem refs_any (w : World) (he : Env w) :
    Calls Tryd.prog 13 #[] w fun e w' => e = .returned (.bool true) ∧ Below w.heap.size w w' := by
  have hp := fun W hE => parse_any exampleL W hE (by decide)
  rw [parse_example] at hp
  have hq := fun W hE => print_ok exampleR W hE check_example
  rw [text_example] at hq
  have HP := Lib.hid hp
  have HQ := Lib.hid hq
  clear hp hq
  go_enter Tryd.func13, Tryd.ntmps13
  go_wp2_with (first | (go_at_call 33; refine (HP.out _ he).mono ?_; rintro e w1 ⟨rfl, hb⟩) | (go_at_call 34; refine (HQ.out _ (he.below ?_)).mono ?_; exact hb.alloc hb.size _; rintro e w2 ⟨rfl, hb2⟩; obtain ⟨hcs, hB⟩ := box_after hb2; have c2 := hcs 2; have c3 := hcs 3; clear hcs hb2))
  go_ret
  exact ⟨rfl, below_tr (by assumption) (by assumption)⟩
end Go.Proofs.YtjgojbkmeggmhaaDoor
