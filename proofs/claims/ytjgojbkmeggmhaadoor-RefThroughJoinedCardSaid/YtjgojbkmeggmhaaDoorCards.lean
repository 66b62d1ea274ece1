/-
  DERIVED. GIVEN WITH THE SEED: THE CARDS: each row of YtjgojbkmeggmhaaDoorRows.lean that lists a variable, with what it lists TIED to the program's text (the seventh form; the later family's looks); each row that meets fmt, with fmt's text TOLD by the authors' own Lean function (tested against real Go, not proved from fmt's source: count such statements apart). THE CARD IS WHAT COUNTS. Prove the row's statement (the work); the ties are given (YtjgojbkmeggmhaaDoorTie.lean); close each card by the builder's one call (the guide's Derived/Test/ToyasCard.lean, 'card_holds'). Laid BY PROGRAM, IN A SANDBOX (cutbox-door.mjs). By AI agents, Wed Nov 11 2026. No macro, syntax, notation, axiom, sorry.
-/
import Derived.Test.YtjgojbkmeggmhaaDoorRows
import GoSem.ClaimSeven
namespace Go.Proofs.YtjgojbkmeggmhaaDoor
namespace Rows

/-- THE TIED CARD OF 'chancerykeep2.SquashBack'. -/
def squashBackCard : Claim7 := { stood := { row := squashBackRow, standIns := [], harness := (true, "e978152be210495d5f654e11222acf5d4ff07d1aa460866cb7aa83f77ce11928"), looks := true }, kinds := [], alts := [], laidByText := true, laidKinds := [.data], laidTests := true, laidLooks := .later }
def SquashBackCardSaid : Prop := Claim7.holds Tryd.pinned (.plain (OpenSpec.ofChange squashBackSpec)) squashBackCard

/-- THE TIED CARD OF 'chancerykeep2.SquashDamaged'. -/
def squashDamagedCard : Claim7 := { stood := { row := squashDamagedRow, standIns := [], harness := (true, "e978152be210495d5f654e11222acf5d4ff07d1aa460866cb7aa83f77ce11928"), looks := true }, kinds := [], alts := [], laidByText := true, laidKinds := [.data], laidTests := true, laidLooks := .later }
def SquashDamagedCardSaid : Prop := Claim7.holds Tryd.pinned (.plain (OpenSpec.ofChange squashDamagedSpec)) squashDamagedCard

/-- THE TIED CARD OF 'chancerykeep2.ScanCovers'. -/
def scanCoversCard : Claim7 := { stood := { row := scanCoversRow, standIns := [], harness := (true, "e978152be210495d5f654e11222acf5d4ff07d1aa460866cb7aa83f77ce11928"), looks := true }, kinds := [], alts := [], laidByText := true, laidKinds := [.data, .data, .data, .sentinel, .sentinel], laidTests := true, laidLooks := .later }
def ScanCoversCardSaid : Prop := Claim7.holds Tryd.pinned (.plain (OpenSpec.ofChange scanCoversSpec)) scanCoversCard

/-- THE TIED CARD OF 'chancerykeep2.RefThroughJoined'. -/
def refThroughJoinedCard : Claim7 := { stood := { row := refThroughJoinedRow, standIns := [], harness := (true, "e978152be210495d5f654e11222acf5d4ff07d1aa460866cb7aa83f77ce11928"), looks := true }, kinds := [], alts := [], laidByText := true, laidKinds := [.data, .data, .data, .data, .sentinel, .sentinel, .pinned], laidTests := true, laidLooks := .later }
def RefThroughJoinedCardSaid : Prop := Claim7.holds Tryd.pinned (.plain (OpenSpec.ofChange refThroughJoinedSpec)) refThroughJoinedCard

/-- THE SECOND FORM's CARD OF 'chancerykeep2.SquashBack'. -/
def squashBackUptoCard : Claim7 := { stood := { row := squashBackUptoRow, standIns := [], harness := (true, "e978152be210495d5f654e11222acf5d4ff07d1aa460866cb7aa83f77ce11928"), looks := true }, kinds := [], alts := [], laidByText := true, laidKinds := [.data], laidTests := true, laidLooks := .later }
def SquashBackUptoCardSaid : Prop := Claim7.holds Tryd.pinned (.plain (OpenSpec.upto squashBackSpec)) squashBackUptoCard

/-- THE SECOND FORM's CARD OF 'chancerykeep2.SquashDamaged'. -/
def squashDamagedUptoCard : Claim7 := { stood := { row := squashDamagedUptoRow, standIns := [], harness := (true, "e978152be210495d5f654e11222acf5d4ff07d1aa460866cb7aa83f77ce11928"), looks := true }, kinds := [], alts := [], laidByText := true, laidKinds := [.data], laidTests := true, laidLooks := .later }
def SquashDamagedUptoCardSaid : Prop := Claim7.holds Tryd.pinned (.plain (OpenSpec.upto squashDamagedSpec)) squashDamagedUptoCard

/-- THE SECOND FORM's CARD OF 'chancerykeep2.ScanCovers'. -/
def scanCoversUptoCard : Claim7 := { stood := { row := scanCoversUptoRow, standIns := [], harness := (true, "e978152be210495d5f654e11222acf5d4ff07d1aa460866cb7aa83f77ce11928"), looks := true }, kinds := [], alts := [], laidByText := true, laidKinds := [.data, .data, .data, .sentinel, .sentinel], laidTests := true, laidLooks := .later }
def ScanCoversUptoCardSaid : Prop := Claim7.holds Tryd.pinned (.plain (OpenSpec.upto scanCoversSpec)) scanCoversUptoCard

/-- THE SECOND FORM's CARD OF 'chancerykeep2.RefThroughJoined'. -/
def refThroughJoinedUptoCard : Claim7 := { stood := { row := refThroughJoinedUptoRow, standIns := [], harness := (true, "e978152be210495d5f654e11222acf5d4ff07d1aa460866cb7aa83f77ce11928"), looks := true }, kinds := [], alts := [], laidByText := true, laidKinds := [.data, .data, .data, .data, .sentinel, .sentinel, .pinned], laidTests := true, laidLooks := .later }
def RefThroughJoinedUptoCardSaid : Prop := Claim7.holds Tryd.pinned (.plain (OpenSpec.upto refThroughJoinedSpec)) refThroughJoinedUptoCard
end Rows
end Go.Proofs.YtjgojbkmeggmhaaDoor
