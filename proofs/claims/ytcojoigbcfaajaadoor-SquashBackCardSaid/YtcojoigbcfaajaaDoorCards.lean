/-
  DERIVED. GIVEN WITH THE SEED: THE CARDS: each row of YtcojoigbcfaajaaDoorRows.lean that lists a variable, with what it lists TIED to the program's text (the seventh form; the later family's looks); each row that meets fmt, with fmt's text TOLD by the authors' own Lean function (tested against real Go, not proved from fmt's source: count such statements apart). THE CARD IS WHAT COUNTS. Prove the row's statement (the work); the ties are given (YtcojoigbcfaajaaDoorTie.lean); close each card by the builder's one call (the guide's Derived/Test/ToyasCard.lean, 'card_holds'). Laid BY PROGRAM, IN A SANDBOX (cutbox-door.mjs). By AI agents, Wed Nov 11 2026. No macro, syntax, notation, axiom, sorry.
-/
import Derived.Test.YtcojoigbcfaajaaDoorRows
import GoSem.ClaimSeven
namespace Go.Proofs.YtcojoigbcfaajaaDoor
namespace Rows

/-- THE TIED CARD OF 'chancerykeep2.SquashBack'. -/
def squashBackCard : Claim7 := { stood := { row := squashBackRow, standIns := [], harness := (true, "7d3b7a54afbb541db3fe6ceddce73661b03c0547826f45a8730e9f621c5001e1"), looks := false }, kinds := [], alts := [], laidByText := true, laidKinds := [.data], laidTests := true, laidLooks := .later }
def SquashBackCardSaid : Prop := Claim7.holds Tryd.pinned (.plain (OpenSpec.ofChange squashBackSpec)) squashBackCard

/-- THE TIED CARD OF 'chancerykeep2.SquashDamaged'. -/
def squashDamagedCard : Claim7 := { stood := { row := squashDamagedRow, standIns := [], harness := (true, "7d3b7a54afbb541db3fe6ceddce73661b03c0547826f45a8730e9f621c5001e1"), looks := false }, kinds := [], alts := [], laidByText := true, laidKinds := [.data], laidTests := true, laidLooks := .later }
def SquashDamagedCardSaid : Prop := Claim7.holds Tryd.pinned (.plain (OpenSpec.ofChange squashDamagedSpec)) squashDamagedCard

/-- THE SECOND FORM's CARD OF 'chancerykeep2.SquashBack'. -/
def squashBackUptoCard : Claim7 := { stood := { row := squashBackUptoRow, standIns := [], harness := (true, "7d3b7a54afbb541db3fe6ceddce73661b03c0547826f45a8730e9f621c5001e1"), looks := false }, kinds := [], alts := [], laidByText := true, laidKinds := [.data], laidTests := true, laidLooks := .later }
def SquashBackUptoCardSaid : Prop := Claim7.holds Tryd.pinned (.plain (OpenSpec.upto squashBackSpec)) squashBackUptoCard

/-- THE SECOND FORM's CARD OF 'chancerykeep2.SquashDamaged'. -/
def squashDamagedUptoCard : Claim7 := { stood := { row := squashDamagedUptoRow, standIns := [], harness := (true, "7d3b7a54afbb541db3fe6ceddce73661b03c0547826f45a8730e9f621c5001e1"), looks := false }, kinds := [], alts := [], laidByText := true, laidKinds := [.data], laidTests := true, laidLooks := .later }
def SquashDamagedUptoCardSaid : Prop := Claim7.holds Tryd.pinned (.plain (OpenSpec.upto squashDamagedSpec)) squashDamagedUptoCard
end Rows
end Go.Proofs.YtcojoigbcfaajaaDoor
