/- What a row's condition and the shape of the world give the walks of value. -/
import Derived.Test.YtcnlonaighlmbaaGreatDoorHae
import Derived.Test.YtcnlonaighlmbaaGreatDoorRows
import Derived.Shelf.Vars
import Derived.Stop.LaidErr
import Derived.Lib.LaidU8
import Derived.Lib.LaidTab
import Derived.PinnedBridge
import Derived.ChangeSame
set_option linter.unusedSimpArgs false
set_option linter.unusedVariables false
namespace Go.Proofs.YtcnlonaighlmbaaGreatDoor
open Go Go.RowKit Go.Lib

theorem max_cell {W : World} (h : W.ShapedOpen Tryz.prog) : ∃ m, W.cell? ⟨0, 0, none⟩ = some (.int .i64 m) :=
  Go.Proofs.cell_of_shapedOpen_int (t := 3) (zero := #[.int .i64 0]) h (of_decide_eq_true (by kernel_rfl)) (by kernel_rfl) rfl (by kernel_rfl) (by kernel_rfl) (by kernel_rfl)
theorem u8_extra : Go.Proofs.U8Extra Tryz.prog Tryz.lays260_ren := ⟨by kernel_rfl, by kernel_rfl, by kernel_rfl, by kernel_rfl, by kernel_rfl, by kernel_rfl, by kernel_rfl⟩
/-- The texts of the faults, as the row lists them. -/
def faultL : List (List UInt8) := [[], [35, 68, 73, 86, 47, 48, 33], [35, 86, 65, 76, 85, 69, 33], [35, 82, 69, 70, 33], [35, 78, 65, 77, 69, 63], [35, 78, 85, 77, 33], [35, 78, 47, 65], [35, 83, 80, 73, 76, 76, 33], [35, 67, 89, 67, 76, 69, 33]]
theorem fault_cell {W : World} (h : VarReads Tryz.prog W "chancery/value.faults" Rows.laid_chancery_value_faults) (i : Nat) (hi : i < 9) :
    W.cell? ⟨1, i, none⟩ = some (.string ⟨(faultL.getD i []).toArray⟩) := by
  obtain ⟨g, t, cs, fuel, p, hg, hty, hvar, hd⟩ := h
  obtain rfl := Option.some.inj ((show Tryz.prog.globalNamed "chancery/value.faults" = some 1 by kernel_rfl).symm.trans hg)
  obtain rfl := Option.some.inj ((show (Tryz.prog.globals[1]?).map (·.type) = some 115 by kernel_rfl).symm.trans hty)
  obtain ⟨fuel', d, q, h1, h2⟩ := array_elem Tryz.underlying115 hd i hi
  rw [show Tryz.prog.cellsOf 9 = 1 from by kernel_rfl, Nat.mul_one] at h2
  have hlen : ∃ v, cs.toList.drop i = v :: cs.toList.drop (i + 1) := by
    cases hc : cs.toList.drop i with
    | nil =>
      rw [hc, List.take_nil] at h2
      obtain ⟨s, e, -⟩ := DataW.trod_string Tryz.underlying9 h2
      cases e
    | cons v r => exact ⟨v, by rw [show cs.toList.drop (i + 1) = (cs.toList.drop i).drop 1 by rw [List.drop_drop], hc]; rfl⟩
  obtain ⟨v, hv⟩ := hlen
  rw [hv] at h2
  obtain ⟨s, e, hx, -⟩ := DataW.trod_string Tryz.underlying9 h2
  have hc : cs[i]? = some v := by
    rw [← Array.getElem?_toList]
    have := congrArg (·[0]?) hv
    simpa using this
  rw [World.var?_cell hg hvar i, hc]
  have ev : v = .string s := by simpa using e
  have ed : d = .lit (.string s.data.toList) := by simpa using congrArg Prod.fst hx
  subst ev
  rw [ed] at h1
  have hs : s.data.toList = faultL.getD i [] := by
    rcases (show i = 0 ∨ i = 1 ∨ i = 2 ∨ i = 3 ∨ i = 4 ∨ i = 5 ∨ i = 6 ∨ i = 7 ∨ i = 8 by omega) with rfl | rfl | rfl | rfl | rfl | rfl | rfl | rfl | rfl <;> (simp at h1; simp [faultL, ← h1])
  rw [← hs]
/-- The environment, out of the row's list. -/
theorem venv_of {W : World} {l : List (String × DataW Unit)} (hs : W.ShapedOpen Tryz.prog) (h : laidMet Tryz.prog l W)
    (m1 : ("internal/strconv.uint64pow10", Rows.laid_internal_strconv_uint64pow10) ∈ l) (m2 : ("unicode/utf8.acceptRanges", Rows.laid_unicode_utf8_acceptRanges) ∈ l)
    (m3 : ("unicode/utf8.first", Rows.laid_unicode_utf8_first) ∈ l) (m4 : ("chancery/value.faults", Rows.laid_chancery_value_faults) ∈ l) : VEnv W := by
  obtain ⟨ps, hl, -⟩ := h
  have r1 := LaidVars_reads hl _ _ m1
  have r2 := LaidVars_reads hl _ _ m2
  have r3 := LaidVars_reads hl _ _ m3
  have r4 := LaidVars_reads hl _ _ m4
  refine ⟨?_, ?_, max_cell hs, fault_cell r4 0 (by decide), fault_cell r4 1 (by decide), fault_cell r4 2 (by decide), fault_cell r4 3 (by decide), fault_cell r4 4 (by decide), fault_cell r4 5 (by decide), fault_cell r4 6 (by decide), fault_cell r4 7 (by decide), fault_cell r4 8 (by decide)⟩
  · have e3 : Rows.laid_unicode_utf8_first = firstData := Pinned.utf8First_eq
    rw [e3] at r3
    exact utf8Tabs_of_reads Tryz.lays260 u8_extra r3 (show VarReads Tryz.prog W "unicode/utf8.acceptRanges" acceptData from r2)
  · obtain ⟨g, t, cs, fuel, p, hg, hty, hvar, hd⟩ := r1
    obtain rfl := Option.some.inj ((show Tryz.prog.globalNamed "internal/strconv.uint64pow10" = some 6 by kernel_rfl).symm.trans hg)
    obtain rfl := Option.some.inj ((show (Tryz.prog.globals[6]?).map (·.type) = some 263 by kernel_rfl).symm.trans hty)
    unfold TabIs
    rw [hvar, ← cells_of_tab (zs := pow10Tab) (k := .u64) Tryz.underlying263 Tryz.underlying156 (by kernel_rfl) (by kernel_rfl) hd]
end Go.Proofs.YtcnlonaighlmbaaGreatDoor
