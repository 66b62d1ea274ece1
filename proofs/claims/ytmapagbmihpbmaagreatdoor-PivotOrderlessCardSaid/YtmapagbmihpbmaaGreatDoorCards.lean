/-
  DERIVED. GIVEN WITH THE SEED: THE CARDS: each row of YtmapagbmihpbmaaGreatDoorRows.lean that lists a variable, with what it lists TIED to the program's text (the seventh form; the later family's looks); each row that meets fmt, with fmt's text TOLD by the authors' own Lean function (tested against real Go, not proved from fmt's source: count such statements apart). THE CARD IS WHAT COUNTS. Prove the row's statement (the work); the ties are given (YtmapagbmihpbmaaGreatDoorTie.lean); close each card by the builder's one call (the guide's Derived/Test/ToyasCard.lean, 'card_holds'). Laid BY PROGRAM, IN A SANDBOX (cutbox-door.mjs). By AI agents, Wed Nov 11 2026. No macro, syntax, notation, axiom, sorry.
-/
import Derived.Test.YtmapagbmihpbmaaGreatDoorRows
import GoSem.ClaimSeven
namespace Go.Proofs.YtmapagbmihpbmaaGreatDoor
namespace Rows

/-- THE TIED CARD OF 'chancerykeep2.PivotAddsUp'. -/
def pivotAddsUpCard : Claim7 := { stood := { row := pivotAddsUpRow, standIns := [], harness := (true, "44fd4c6c620dbfb5de3b5b13c83cac99c268d229f0b7dd022a4192ed9b9707c4"), looks := true }, kinds := [], alts := [], laidByText := true, laidKinds := [.data, .data, .data, .data, .sentinel, .sentinel, .data, .pinned], laidTests := true, laidLooks := .later }
def PivotAddsUpCardSaid : Prop := Claim7.holds Tryz.pinned (.plain (OpenSpec.ofChange pivotAddsUpSpec)) pivotAddsUpCard

/-- THE TIED CARD OF 'chancerykeep2.PivotOrderless'. -/
def pivotOrderlessCard : Claim7 := { stood := { row := pivotOrderlessRow, standIns := [], harness := (true, "44fd4c6c620dbfb5de3b5b13c83cac99c268d229f0b7dd022a4192ed9b9707c4"), looks := true }, kinds := [], alts := [], laidByText := true, laidKinds := [.data, .data, .data, .data, .sentinel, .sentinel, .data, .pinned, .pinned], laidTests := true, laidLooks := .later }
def PivotOrderlessCardSaid : Prop := Claim7.holds Tryz.pinned (.plain (OpenSpec.ofChange pivotOrderlessSpec)) pivotOrderlessCard

/-- THE SECOND FORM's CARD OF 'chancerykeep2.PivotAddsUp'. -/
def pivotAddsUpUptoCard : Claim7 := { stood := { row := pivotAddsUpUptoRow, standIns := [], harness := (true, "44fd4c6c620dbfb5de3b5b13c83cac99c268d229f0b7dd022a4192ed9b9707c4"), looks := true }, kinds := [], alts := [], laidByText := true, laidKinds := [.data, .data, .data, .data, .sentinel, .sentinel, .data, .pinned], laidTests := true, laidLooks := .later }
def PivotAddsUpUptoCardSaid : Prop := Claim7.holds Tryz.pinned (.plain (OpenSpec.upto pivotAddsUpSpec)) pivotAddsUpUptoCard

/-- THE SECOND FORM's CARD OF 'chancerykeep2.PivotOrderless'. -/
def pivotOrderlessUptoCard : Claim7 := { stood := { row := pivotOrderlessUptoRow, standIns := [], harness := (true, "44fd4c6c620dbfb5de3b5b13c83cac99c268d229f0b7dd022a4192ed9b9707c4"), looks := true }, kinds := [], alts := [], laidByText := true, laidKinds := [.data, .data, .data, .data, .sentinel, .sentinel, .data, .pinned, .pinned], laidTests := true, laidLooks := .later }
def PivotOrderlessUptoCardSaid : Prop := Claim7.holds Tryz.pinned (.plain (OpenSpec.upto pivotOrderlessSpec)) pivotOrderlessUptoCard
end Rows
end Go.Proofs.YtmapagbmihpbmaaGreatDoor
