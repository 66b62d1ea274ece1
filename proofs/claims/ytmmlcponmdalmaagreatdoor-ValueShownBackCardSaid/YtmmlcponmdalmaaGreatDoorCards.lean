/-
  DERIVED. GIVEN WITH THE SEED: THE CARDS: each row of YtmmlcponmdalmaaGreatDoorRows.lean that lists a variable, with what it lists TIED to the program's text (the seventh form; the later family's looks); each row that meets fmt, with fmt's text TOLD by the authors' own Lean function (tested against real Go, not proved from fmt's source: count such statements apart). THE CARD IS WHAT COUNTS. Prove the row's statement (the work); the ties are given (YtmmlcponmdalmaaGreatDoorTie.lean); close each card by the builder's one call (the guide's Derived/Test/ToyasCard.lean, 'card_holds'). Laid BY PROGRAM, IN A SANDBOX (cutbox-door.mjs). By AI agents, Wed Nov 11 2026. No macro, syntax, notation, axiom, sorry.
-/
import Derived.Test.YtmmlcponmdalmaaGreatDoorRows
import GoSem.ClaimSeven
namespace Go.Proofs.YtmmlcponmdalmaaGreatDoor
namespace Rows

/-- THE TIED CARD OF 'chancerykeep2.PivotAddsUp'. -/
def pivotAddsUpCard : Claim7 := { stood := { row := pivotAddsUpRow, standIns := [], harness := (true, "e7c89cb05b0627100c4f747078d471e6313052baedd63b53c0f85c228b51fd34"), looks := true }, kinds := [], alts := [], laidByText := true, laidKinds := [.data, .data, .data, .data, .sentinel, .sentinel, .data, .pinned], laidTests := true, laidLooks := .later }
def PivotAddsUpCardSaid : Prop := Claim7.holds Tryz.pinned (.plain (OpenSpec.ofChange pivotAddsUpSpec)) pivotAddsUpCard

/-- THE TIED CARD OF 'chancerykeep2.ValueShownBack'. -/
def valueShownBackCard : Claim7 := { stood := { row := valueShownBackRow, standIns := [], harness := (true, "e7c89cb05b0627100c4f747078d471e6313052baedd63b53c0f85c228b51fd34"), looks := true }, kinds := [], alts := [], laidByText := true, laidKinds := [.data, .data, .data, .data, .sentinel, .sentinel, .data, .pinned], laidTests := true, laidLooks := .later }
def ValueShownBackCardSaid : Prop := Claim7.holds Tryz.pinned (.plain (OpenSpec.ofChange valueShownBackSpec)) valueShownBackCard

/-- THE TIED CARD OF 'chancerykeep2.DatesStep'. -/
def datesStepCard : Claim7 := { stood := { row := datesStepRow, standIns := [], harness := (true, "e7c89cb05b0627100c4f747078d471e6313052baedd63b53c0f85c228b51fd34"), looks := true }, kinds := [], alts := [], laidByText := true, laidKinds := [.data, .data, .data, .data, .sentinel, .sentinel, .data, .pinned], laidTests := true, laidLooks := .later }
def DatesStepCardSaid : Prop := Claim7.holds Tryz.pinned (.plain (OpenSpec.ofChange datesStepSpec)) datesStepCard

/-- THE TIED CARD OF 'chancerykeep2.PivotOrderless'. -/
def pivotOrderlessCard : Claim7 := { stood := { row := pivotOrderlessRow, standIns := [], harness := (true, "e7c89cb05b0627100c4f747078d471e6313052baedd63b53c0f85c228b51fd34"), looks := true }, kinds := [], alts := [], laidByText := true, laidKinds := [.data, .data, .data, .data, .sentinel, .sentinel, .data, .pinned, .pinned], laidTests := true, laidLooks := .later }
def PivotOrderlessCardSaid : Prop := Claim7.holds Tryz.pinned (.plain (OpenSpec.ofChange pivotOrderlessSpec)) pivotOrderlessCard

/-- THE TIED CARD OF 'chancerykeep2.ValueOrderTotal'. -/
def valueOrderTotalCard : Claim7 := { stood := { row := valueOrderTotalRow, standIns := [], harness := (true, "e7c89cb05b0627100c4f747078d471e6313052baedd63b53c0f85c228b51fd34"), looks := true }, kinds := [], alts := [], laidByText := true, laidKinds := [.data, .data, .data, .data, .sentinel, .sentinel, .data, .pinned], laidTests := true, laidLooks := .later }
def ValueOrderTotalCardSaid : Prop := Claim7.holds Tryz.pinned (.plain (OpenSpec.ofChange valueOrderTotalSpec)) valueOrderTotalCard

/-- THE TIED CARD OF 'chancerykeep2.ArrangeFilters'. -/
def arrangeFiltersCard : Claim7 := { stood := { row := arrangeFiltersRow, standIns := [], harness := (true, "e7c89cb05b0627100c4f747078d471e6313052baedd63b53c0f85c228b51fd34"), looks := true }, kinds := [], alts := [], laidByText := true, laidKinds := [.data, .data, .data, .data, .sentinel, .sentinel, .data, .pinned], laidTests := true, laidLooks := .later }
def ArrangeFiltersCardSaid : Prop := Claim7.holds Tryz.pinned (.plain (OpenSpec.ofChange arrangeFiltersSpec)) arrangeFiltersCard

/-- THE SECOND FORM's CARD OF 'chancerykeep2.PivotAddsUp'. -/
def pivotAddsUpUptoCard : Claim7 := { stood := { row := pivotAddsUpUptoRow, standIns := [], harness := (true, "e7c89cb05b0627100c4f747078d471e6313052baedd63b53c0f85c228b51fd34"), looks := true }, kinds := [], alts := [], laidByText := true, laidKinds := [.data, .data, .data, .data, .sentinel, .sentinel, .data, .pinned], laidTests := true, laidLooks := .later }
def PivotAddsUpUptoCardSaid : Prop := Claim7.holds Tryz.pinned (.plain (OpenSpec.upto pivotAddsUpSpec)) pivotAddsUpUptoCard

/-- THE SECOND FORM's CARD OF 'chancerykeep2.ValueShownBack'. -/
def valueShownBackUptoCard : Claim7 := { stood := { row := valueShownBackUptoRow, standIns := [], harness := (true, "e7c89cb05b0627100c4f747078d471e6313052baedd63b53c0f85c228b51fd34"), looks := true }, kinds := [], alts := [], laidByText := true, laidKinds := [.data, .data, .data, .data, .sentinel, .sentinel, .data, .pinned], laidTests := true, laidLooks := .later }
def ValueShownBackUptoCardSaid : Prop := Claim7.holds Tryz.pinned (.plain (OpenSpec.upto valueShownBackSpec)) valueShownBackUptoCard

/-- THE SECOND FORM's CARD OF 'chancerykeep2.DatesStep'. -/
def datesStepUptoCard : Claim7 := { stood := { row := datesStepUptoRow, standIns := [], harness := (true, "e7c89cb05b0627100c4f747078d471e6313052baedd63b53c0f85c228b51fd34"), looks := true }, kinds := [], alts := [], laidByText := true, laidKinds := [.data, .data, .data, .data, .sentinel, .sentinel, .data, .pinned], laidTests := true, laidLooks := .later }
def DatesStepUptoCardSaid : Prop := Claim7.holds Tryz.pinned (.plain (OpenSpec.upto datesStepSpec)) datesStepUptoCard

/-- THE SECOND FORM's CARD OF 'chancerykeep2.PivotOrderless'. -/
def pivotOrderlessUptoCard : Claim7 := { stood := { row := pivotOrderlessUptoRow, standIns := [], harness := (true, "e7c89cb05b0627100c4f747078d471e6313052baedd63b53c0f85c228b51fd34"), looks := true }, kinds := [], alts := [], laidByText := true, laidKinds := [.data, .data, .data, .data, .sentinel, .sentinel, .data, .pinned, .pinned], laidTests := true, laidLooks := .later }
def PivotOrderlessUptoCardSaid : Prop := Claim7.holds Tryz.pinned (.plain (OpenSpec.upto pivotOrderlessSpec)) pivotOrderlessUptoCard

/-- THE SECOND FORM's CARD OF 'chancerykeep2.ValueOrderTotal'. -/
def valueOrderTotalUptoCard : Claim7 := { stood := { row := valueOrderTotalUptoRow, standIns := [], harness := (true, "e7c89cb05b0627100c4f747078d471e6313052baedd63b53c0f85c228b51fd34"), looks := true }, kinds := [], alts := [], laidByText := true, laidKinds := [.data, .data, .data, .data, .sentinel, .sentinel, .data, .pinned], laidTests := true, laidLooks := .later }
def ValueOrderTotalUptoCardSaid : Prop := Claim7.holds Tryz.pinned (.plain (OpenSpec.upto valueOrderTotalSpec)) valueOrderTotalUptoCard

/-- THE SECOND FORM's CARD OF 'chancerykeep2.ArrangeFilters'. -/
def arrangeFiltersUptoCard : Claim7 := { stood := { row := arrangeFiltersUptoRow, standIns := [], harness := (true, "e7c89cb05b0627100c4f747078d471e6313052baedd63b53c0f85c228b51fd34"), looks := true }, kinds := [], alts := [], laidByText := true, laidKinds := [.data, .data, .data, .data, .sentinel, .sentinel, .data, .pinned], laidTests := true, laidLooks := .later }
def ArrangeFiltersUptoCardSaid : Prop := Claim7.holds Tryz.pinned (.plain (OpenSpec.upto arrangeFiltersSpec)) arrangeFiltersUptoCard
end Rows
end Go.Proofs.YtmmlcponmdalmaaGreatDoor
