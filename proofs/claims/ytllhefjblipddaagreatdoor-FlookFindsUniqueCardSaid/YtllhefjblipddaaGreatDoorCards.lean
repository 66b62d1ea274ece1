/-
  DERIVED. GIVEN WITH THE SEED: THE CARDS: each row of YtllhefjblipddaaGreatDoorRows.lean that lists a variable, with what it lists TIED to the program's text (the seventh form; the later family's looks); each row that meets fmt, with fmt's text TOLD by the authors' own Lean function (tested against real Go, not proved from fmt's source: count such statements apart). THE CARD IS WHAT COUNTS. Prove the row's statement (the work); the ties are given (YtllhefjblipddaaGreatDoorTie.lean); close each card by the builder's one call (the guide's Derived/Test/ToyasCard.lean, 'card_holds'). Laid BY PROGRAM, IN A SANDBOX (cutbox-door.mjs). By AI agents, Wed Nov 11 2026. No macro, syntax, notation, axiom, sorry.
-/
import Derived.Test.YtllhefjblipddaaGreatDoorRows
import GoSem.ClaimSeven
namespace Go.Proofs.YtllhefjblipddaaGreatDoor
namespace Rows

/-- THE TIED CARD OF 'chancerykeep2.FlookTurnsBack'. -/
def flookTurnsBackCard : Claim7 := { stood := { row := flookTurnsBackRow, standIns := [], harness := (true, "9b3643ba5f450edda8e5d2f8820160e944809e2813926f2918739f5c9486697d"), looks := true }, kinds := [], alts := [], laidByText := true, laidKinds := [.data, .data, .data, .data, .sentinel, .sentinel, .data, .pinned], laidTests := true, laidLooks := .later }
def FlookTurnsBackCardSaid : Prop := Claim7.holds Tryz.pinned (.plain (OpenSpec.ofChange flookTurnsBackSpec)) flookTurnsBackCard

/-- THE TIED CARD OF 'chancerykeep2.FlookFindsUnique'. -/
def flookFindsUniqueCard : Claim7 := { stood := { row := flookFindsUniqueRow, standIns := [], harness := (true, "9b3643ba5f450edda8e5d2f8820160e944809e2813926f2918739f5c9486697d"), looks := true }, kinds := [], alts := [], laidByText := true, laidKinds := [.data, .data, .data, .data, .sentinel, .sentinel, .data, .pinned], laidTests := true, laidLooks := .later }
def FlookFindsUniqueCardSaid : Prop := Claim7.holds Tryz.pinned (.plain (OpenSpec.ofChange flookFindsUniqueSpec)) flookFindsUniqueCard

/-- THE SECOND FORM's CARD OF 'chancerykeep2.FlookTurnsBack'. -/
def flookTurnsBackUptoCard : Claim7 := { stood := { row := flookTurnsBackUptoRow, standIns := [], harness := (true, "9b3643ba5f450edda8e5d2f8820160e944809e2813926f2918739f5c9486697d"), looks := true }, kinds := [], alts := [], laidByText := true, laidKinds := [.data, .data, .data, .data, .sentinel, .sentinel, .data, .pinned], laidTests := true, laidLooks := .later }
def FlookTurnsBackUptoCardSaid : Prop := Claim7.holds Tryz.pinned (.plain (OpenSpec.upto flookTurnsBackSpec)) flookTurnsBackUptoCard

/-- THE SECOND FORM's CARD OF 'chancerykeep2.FlookFindsUnique'. -/
def flookFindsUniqueUptoCard : Claim7 := { stood := { row := flookFindsUniqueUptoRow, standIns := [], harness := (true, "9b3643ba5f450edda8e5d2f8820160e944809e2813926f2918739f5c9486697d"), looks := true }, kinds := [], alts := [], laidByText := true, laidKinds := [.data, .data, .data, .data, .sentinel, .sentinel, .data, .pinned], laidTests := true, laidLooks := .later }
def FlookFindsUniqueUptoCardSaid : Prop := Claim7.holds Tryz.pinned (.plain (OpenSpec.upto flookFindsUniqueSpec)) flookFindsUniqueUptoCard
end Rows
end Go.Proofs.YtllhefjblipddaaGreatDoor
