/-
  DERIVED. GIVEN WITH THE SEED: THE CARDS: each row of YtigeipjkcidleaaGreatDoorRows.lean that lists a variable, with what it lists TIED to the program's text (the seventh form; the later family's looks); each row that meets fmt, with fmt's text TOLD by the authors' own Lean function (tested against real Go, not proved from fmt's source: count such statements apart). THE CARD IS WHAT COUNTS. Prove the row's statement (the work); the ties are given (YtigeipjkcidleaaGreatDoorTie.lean); close each card by the builder's one call (the guide's Derived/Test/ToyasCard.lean, 'card_holds'). Laid BY PROGRAM, IN A SANDBOX (cutbox-door.mjs). By AI agents, Wed Nov 11 2026. No macro, syntax, notation, axiom, sorry.
-/
import Derived.Test.YtigeipjkcidleaaGreatDoorRows
import GoSem.ClaimSeven
namespace Go.Proofs.YtigeipjkcidleaaGreatDoor
namespace Rows

/-- THE TIED CARD OF 'chancerykeep2.PivotAddsUp'. -/
def pivotAddsUpCard : Claim7 := { stood := { row := pivotAddsUpRow, standIns := [], harness := (true, "ca5d352d4f8f14b39db3a29bf1e109cdc62c76ed65d8b9f4cb3c88e738c55390"), looks := true }, kinds := [], alts := [], laidByText := true, laidKinds := [.data, .data, .data, .data, .sentinel, .sentinel, .data, .pinned], laidTests := true, laidLooks := .later }
def PivotAddsUpCardSaid : Prop := Claim7.holds Tryz.pinned (.plain (OpenSpec.ofChange pivotAddsUpSpec)) pivotAddsUpCard

/-- THE TIED CARD OF 'chancerytop.TopCharts'. -/
def topChartsCard : Claim7 := { stood := { row := topChartsRow, standIns := [], harness := (true, "ca5d352d4f8f14b39db3a29bf1e109cdc62c76ed65d8b9f4cb3c88e738c55390"), looks := true }, kinds := [], alts := [], laidByText := true, laidKinds := [.data, .data, .data, .data, .sentinel, .sentinel, .data, .pinned], laidTests := true, laidLooks := .later }
def TopChartsCardSaid : Prop := Claim7.holds Tryz.pinned (.plain (OpenSpec.ofChange topChartsSpec)) topChartsCard

/-- THE TIED CARD OF 'chancerykeep2.PivotOrderless'. -/
def pivotOrderlessCard : Claim7 := { stood := { row := pivotOrderlessRow, standIns := [], harness := (true, "ca5d352d4f8f14b39db3a29bf1e109cdc62c76ed65d8b9f4cb3c88e738c55390"), looks := true }, kinds := [], alts := [], laidByText := true, laidKinds := [.data, .data, .data, .data, .sentinel, .sentinel, .data, .pinned, .pinned], laidTests := true, laidLooks := .later }
def PivotOrderlessCardSaid : Prop := Claim7.holds Tryz.pinned (.plain (OpenSpec.ofChange pivotOrderlessSpec)) pivotOrderlessCard

/-- THE TIED CARD OF 'chancerykeep2.ArrangeFilters'. -/
def arrangeFiltersCard : Claim7 := { stood := { row := arrangeFiltersRow, standIns := [], harness := (true, "ca5d352d4f8f14b39db3a29bf1e109cdc62c76ed65d8b9f4cb3c88e738c55390"), looks := true }, kinds := [], alts := [], laidByText := true, laidKinds := [.data, .data, .data, .data, .sentinel, .sentinel, .data, .pinned], laidTests := true, laidLooks := .later }
def ArrangeFiltersCardSaid : Prop := Claim7.holds Tryz.pinned (.plain (OpenSpec.ofChange arrangeFiltersSpec)) arrangeFiltersCard

/-- THE SECOND FORM's CARD OF 'chancerykeep2.PivotAddsUp'. -/
def pivotAddsUpUptoCard : Claim7 := { stood := { row := pivotAddsUpUptoRow, standIns := [], harness := (true, "ca5d352d4f8f14b39db3a29bf1e109cdc62c76ed65d8b9f4cb3c88e738c55390"), looks := true }, kinds := [], alts := [], laidByText := true, laidKinds := [.data, .data, .data, .data, .sentinel, .sentinel, .data, .pinned], laidTests := true, laidLooks := .later }
def PivotAddsUpUptoCardSaid : Prop := Claim7.holds Tryz.pinned (.plain (OpenSpec.upto pivotAddsUpSpec)) pivotAddsUpUptoCard

/-- THE SECOND FORM's CARD OF 'chancerytop.TopCharts'. -/
def topChartsUptoCard : Claim7 := { stood := { row := topChartsUptoRow, standIns := [], harness := (true, "ca5d352d4f8f14b39db3a29bf1e109cdc62c76ed65d8b9f4cb3c88e738c55390"), looks := true }, kinds := [], alts := [], laidByText := true, laidKinds := [.data, .data, .data, .data, .sentinel, .sentinel, .data, .pinned], laidTests := true, laidLooks := .later }
def TopChartsUptoCardSaid : Prop := Claim7.holds Tryz.pinned (.plain (OpenSpec.upto topChartsSpec)) topChartsUptoCard

/-- THE SECOND FORM's CARD OF 'chancerykeep2.PivotOrderless'. -/
def pivotOrderlessUptoCard : Claim7 := { stood := { row := pivotOrderlessUptoRow, standIns := [], harness := (true, "ca5d352d4f8f14b39db3a29bf1e109cdc62c76ed65d8b9f4cb3c88e738c55390"), looks := true }, kinds := [], alts := [], laidByText := true, laidKinds := [.data, .data, .data, .data, .sentinel, .sentinel, .data, .pinned, .pinned], laidTests := true, laidLooks := .later }
def PivotOrderlessUptoCardSaid : Prop := Claim7.holds Tryz.pinned (.plain (OpenSpec.upto pivotOrderlessSpec)) pivotOrderlessUptoCard

/-- THE SECOND FORM's CARD OF 'chancerykeep2.ArrangeFilters'. -/
def arrangeFiltersUptoCard : Claim7 := { stood := { row := arrangeFiltersUptoRow, standIns := [], harness := (true, "ca5d352d4f8f14b39db3a29bf1e109cdc62c76ed65d8b9f4cb3c88e738c55390"), looks := true }, kinds := [], alts := [], laidByText := true, laidKinds := [.data, .data, .data, .data, .sentinel, .sentinel, .data, .pinned], laidTests := true, laidLooks := .later }
def ArrangeFiltersUptoCardSaid : Prop := Claim7.holds Tryz.pinned (.plain (OpenSpec.upto arrangeFiltersSpec)) arrangeFiltersUptoCard
end Rows
end Go.Proofs.YtigeipjkcidleaaGreatDoor
