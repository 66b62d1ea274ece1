/-
  DERIVED. GIVEN WITH THE SEED: THE CARDS: each row of YtliljihkoojggaaGreatDoorRows.lean that lists a variable, with what it lists TIED to the program's text (the seventh form; the later family's looks); each row that meets fmt, with fmt's text TOLD by the authors' own Lean function (tested against real Go, not proved from fmt's source: count such statements apart). THE CARD IS WHAT COUNTS. Prove the row's statement (the work); the ties are given (YtliljihkoojggaaGreatDoorTie.lean); close each card by the builder's one call (the guide's Derived/Test/ToyasCard.lean, 'card_holds'). Laid BY PROGRAM, IN A SANDBOX (cutbox-door.mjs). By AI agents, Wed Nov 11 2026. No macro, syntax, notation, axiom, sorry.
-/
import Derived.Test.YtliljihkoojggaaGreatDoorRows
import GoSem.ClaimSeven
namespace Go.Proofs.YtliljihkoojggaaGreatDoor
namespace Rows

/-- THE TIED CARD OF 'chancerykeep2.ExactField'. -/
def exactFieldCard : Claim7 := { stood := { row := exactFieldRow, standIns := [], harness := (true, "c3430a7778673b881b4ce6067c7b35ec751ff07968bca683e65b1c1538139361"), looks := true }, kinds := [], alts := [], laidByText := true, laidKinds := [.data, .data, .data, .data, .sentinel, .sentinel, .pinned], laidTests := true, laidLooks := .later }
def ExactFieldCardSaid : Prop := Claim7.holds Tryz.pinned (.plain (OpenSpec.ofChange exactFieldSpec)) exactFieldCard

/-- THE TIED CARD OF 'chancerykeep2.ExactOrder'. -/
def exactOrderCard : Claim7 := { stood := { row := exactOrderRow, standIns := [], harness := (true, "c3430a7778673b881b4ce6067c7b35ec751ff07968bca683e65b1c1538139361"), looks := true }, kinds := [], alts := [], laidByText := true, laidKinds := [.data, .data, .data, .data, .sentinel, .sentinel, .pinned], laidTests := true, laidLooks := .later }
def ExactOrderCardSaid : Prop := Claim7.holds Tryz.pinned (.plain (OpenSpec.ofChange exactOrderSpec)) exactOrderCard

/-- THE TIED CARD OF 'chancerykeep2.ExactRoots'. -/
def exactRootsCard : Claim7 := { stood := { row := exactRootsRow, standIns := [], harness := (true, "c3430a7778673b881b4ce6067c7b35ec751ff07968bca683e65b1c1538139361"), looks := true }, kinds := [], alts := [], laidByText := true, laidKinds := [.data, .data, .data, .data, .sentinel, .sentinel, .pinned], laidTests := true, laidLooks := .later }
def ExactRootsCardSaid : Prop := Claim7.holds Tryz.pinned (.plain (OpenSpec.ofChange exactRootsSpec)) exactRootsCard

/-- THE TIED CARD OF 'chancerykeep2.ExactTexts'. -/
def exactTextsCard : Claim7 := { stood := { row := exactTextsRow, standIns := [], harness := (true, "c3430a7778673b881b4ce6067c7b35ec751ff07968bca683e65b1c1538139361"), looks := true }, kinds := [], alts := [], laidByText := true, laidKinds := [.data, .data, .data, .data, .sentinel, .sentinel, .pinned], laidTests := true, laidLooks := .later }
def ExactTextsCardSaid : Prop := Claim7.holds Tryz.pinned (.plain (OpenSpec.ofChange exactTextsSpec)) exactTextsCard

/-- THE SECOND FORM's CARD OF 'chancerykeep2.ExactField'. -/
def exactFieldUptoCard : Claim7 := { stood := { row := exactFieldUptoRow, standIns := [], harness := (true, "c3430a7778673b881b4ce6067c7b35ec751ff07968bca683e65b1c1538139361"), looks := true }, kinds := [], alts := [], laidByText := true, laidKinds := [.data, .data, .data, .data, .sentinel, .sentinel, .pinned], laidTests := true, laidLooks := .later }
def ExactFieldUptoCardSaid : Prop := Claim7.holds Tryz.pinned (.plain (OpenSpec.upto exactFieldSpec)) exactFieldUptoCard

/-- THE SECOND FORM's CARD OF 'chancerykeep2.ExactOrder'. -/
def exactOrderUptoCard : Claim7 := { stood := { row := exactOrderUptoRow, standIns := [], harness := (true, "c3430a7778673b881b4ce6067c7b35ec751ff07968bca683e65b1c1538139361"), looks := true }, kinds := [], alts := [], laidByText := true, laidKinds := [.data, .data, .data, .data, .sentinel, .sentinel, .pinned], laidTests := true, laidLooks := .later }
def ExactOrderUptoCardSaid : Prop := Claim7.holds Tryz.pinned (.plain (OpenSpec.upto exactOrderSpec)) exactOrderUptoCard

/-- THE SECOND FORM's CARD OF 'chancerykeep2.ExactRoots'. -/
def exactRootsUptoCard : Claim7 := { stood := { row := exactRootsUptoRow, standIns := [], harness := (true, "c3430a7778673b881b4ce6067c7b35ec751ff07968bca683e65b1c1538139361"), looks := true }, kinds := [], alts := [], laidByText := true, laidKinds := [.data, .data, .data, .data, .sentinel, .sentinel, .pinned], laidTests := true, laidLooks := .later }
def ExactRootsUptoCardSaid : Prop := Claim7.holds Tryz.pinned (.plain (OpenSpec.upto exactRootsSpec)) exactRootsUptoCard

/-- THE SECOND FORM's CARD OF 'chancerykeep2.ExactTexts'. -/
def exactTextsUptoCard : Claim7 := { stood := { row := exactTextsUptoRow, standIns := [], harness := (true, "c3430a7778673b881b4ce6067c7b35ec751ff07968bca683e65b1c1538139361"), looks := true }, kinds := [], alts := [], laidByText := true, laidKinds := [.data, .data, .data, .data, .sentinel, .sentinel, .pinned], laidTests := true, laidLooks := .later }
def ExactTextsUptoCardSaid : Prop := Claim7.holds Tryz.pinned (.plain (OpenSpec.upto exactTextsSpec)) exactTextsUptoCard
end Rows
end Go.Proofs.YtliljihkoojggaaGreatDoor
