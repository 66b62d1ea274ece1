/-
  DERIVED. GIVEN WITH THE SEED: THE CARDS: each row of YtdepdihdjghicaaDoorRows.lean that lists a variable, with what it lists TIED to the program's text (the seventh form; the later family's looks); each row that meets fmt, with fmt's text TOLD by the authors' own Lean function (tested against real Go, not proved from fmt's source: count such statements apart). THE CARD IS WHAT COUNTS. Prove the row's statement (the work); the ties are given (YtdepdihdjghicaaDoorTie.lean); close each card by the builder's one call (the guide's Derived/Test/ToyasCard.lean, 'card_holds'). Laid BY PROGRAM, IN A SANDBOX (cutbox-door.mjs). By AI agents, Wed Nov 11 2026. No macro, syntax, notation, axiom, sorry.
-/
import Derived.Test.YtdepdihdjghicaaDoorRows
import GoSem.ClaimSeven
namespace Go.Proofs.YtdepdihdjghicaaDoor
namespace Rows

/-- THE TIED CARD OF 'chancerykeep2.ScanCovers'. -/
def scanCoversCard : Claim7 := { stood := { row := scanCoversRow, standIns := [], harness := (true, "954d4b5b2eaeb3c48a04a45e77795df037e491ec4945838dfe7ebaedbb1322ad"), looks := true }, kinds := [], alts := [], laidByText := true, laidKinds := [.data, .data, .data, .sentinel, .sentinel], laidTests := true, laidLooks := .later }
def ScanCoversCardSaid : Prop := Claim7.holds Tryd.pinned (.plain (OpenSpec.ofChange scanCoversSpec)) scanCoversCard

/-- THE TIED CARD OF 'chancerykeep2.RefColumnsBack'. -/
def refColumnsBackCard : Claim7 := { stood := { row := refColumnsBackRow, standIns := [], harness := (true, "954d4b5b2eaeb3c48a04a45e77795df037e491ec4945838dfe7ebaedbb1322ad"), looks := true }, kinds := [], alts := [], laidByText := true, laidKinds := [.data, .data, .data, .data, .sentinel, .sentinel, .pinned], laidTests := true, laidLooks := .later }
def RefColumnsBackCardSaid : Prop := Claim7.holds Tryd.pinned (.plain (OpenSpec.ofChange refColumnsBackSpec)) refColumnsBackCard

/-- THE TIED CARD OF 'chancerykeep2.RefCopiedBack'. -/
def refCopiedBackCard : Claim7 := { stood := { row := refCopiedBackRow, standIns := [], harness := (true, "954d4b5b2eaeb3c48a04a45e77795df037e491ec4945838dfe7ebaedbb1322ad"), looks := true }, kinds := [], alts := [], laidByText := true, laidKinds := [.data, .data, .data, .data, .sentinel, .sentinel, .pinned], laidTests := true, laidLooks := .later }
def RefCopiedBackCardSaid : Prop := Claim7.holds Tryd.pinned (.plain (OpenSpec.ofChange refCopiedBackSpec)) refCopiedBackCard

/-- THE TIED CARD OF 'chancerykeep2.RefTextBack'. -/
def refTextBackCard : Claim7 := { stood := { row := refTextBackRow, standIns := [], harness := (true, "954d4b5b2eaeb3c48a04a45e77795df037e491ec4945838dfe7ebaedbb1322ad"), looks := true }, kinds := [], alts := [], laidByText := true, laidKinds := [.data, .data, .data, .data, .sentinel, .sentinel, .pinned, .pinned], laidTests := true, laidLooks := .later }
def RefTextBackCardSaid : Prop := Claim7.holds Tryd.pinned (.plain (OpenSpec.ofChange refTextBackSpec)) refTextBackCard

/-- THE TIED CARD OF 'chancerykeep2.RefThroughJoined'. -/
def refThroughJoinedCard : Claim7 := { stood := { row := refThroughJoinedRow, standIns := [], harness := (true, "954d4b5b2eaeb3c48a04a45e77795df037e491ec4945838dfe7ebaedbb1322ad"), looks := true }, kinds := [], alts := [], laidByText := true, laidKinds := [.data, .data, .data, .data, .sentinel, .sentinel, .pinned], laidTests := true, laidLooks := .later }
def RefThroughJoinedCardSaid : Prop := Claim7.holds Tryd.pinned (.plain (OpenSpec.ofChange refThroughJoinedSpec)) refThroughJoinedCard

/-- THE SECOND FORM's CARD OF 'chancerykeep2.ScanCovers'. -/
def scanCoversUptoCard : Claim7 := { stood := { row := scanCoversUptoRow, standIns := [], harness := (true, "954d4b5b2eaeb3c48a04a45e77795df037e491ec4945838dfe7ebaedbb1322ad"), looks := true }, kinds := [], alts := [], laidByText := true, laidKinds := [.data, .data, .data, .sentinel, .sentinel], laidTests := true, laidLooks := .later }
def ScanCoversUptoCardSaid : Prop := Claim7.holds Tryd.pinned (.plain (OpenSpec.upto scanCoversSpec)) scanCoversUptoCard

/-- THE SECOND FORM's CARD OF 'chancerykeep2.RefColumnsBack'. -/
def refColumnsBackUptoCard : Claim7 := { stood := { row := refColumnsBackUptoRow, standIns := [], harness := (true, "954d4b5b2eaeb3c48a04a45e77795df037e491ec4945838dfe7ebaedbb1322ad"), looks := true }, kinds := [], alts := [], laidByText := true, laidKinds := [.data, .data, .data, .data, .sentinel, .sentinel, .pinned], laidTests := true, laidLooks := .later }
def RefColumnsBackUptoCardSaid : Prop := Claim7.holds Tryd.pinned (.plain (OpenSpec.upto refColumnsBackSpec)) refColumnsBackUptoCard

/-- THE SECOND FORM's CARD OF 'chancerykeep2.RefCopiedBack'. -/
def refCopiedBackUptoCard : Claim7 := { stood := { row := refCopiedBackUptoRow, standIns := [], harness := (true, "954d4b5b2eaeb3c48a04a45e77795df037e491ec4945838dfe7ebaedbb1322ad"), looks := true }, kinds := [], alts := [], laidByText := true, laidKinds := [.data, .data, .data, .data, .sentinel, .sentinel, .pinned], laidTests := true, laidLooks := .later }
def RefCopiedBackUptoCardSaid : Prop := Claim7.holds Tryd.pinned (.plain (OpenSpec.upto refCopiedBackSpec)) refCopiedBackUptoCard

/-- THE SECOND FORM's CARD OF 'chancerykeep2.RefTextBack'. -/
def refTextBackUptoCard : Claim7 := { stood := { row := refTextBackUptoRow, standIns := [], harness := (true, "954d4b5b2eaeb3c48a04a45e77795df037e491ec4945838dfe7ebaedbb1322ad"), looks := true }, kinds := [], alts := [], laidByText := true, laidKinds := [.data, .data, .data, .data, .sentinel, .sentinel, .pinned, .pinned], laidTests := true, laidLooks := .later }
def RefTextBackUptoCardSaid : Prop := Claim7.holds Tryd.pinned (.plain (OpenSpec.upto refTextBackSpec)) refTextBackUptoCard

/-- THE SECOND FORM's CARD OF 'chancerykeep2.RefThroughJoined'. -/
def refThroughJoinedUptoCard : Claim7 := { stood := { row := refThroughJoinedUptoRow, standIns := [], harness := (true, "954d4b5b2eaeb3c48a04a45e77795df037e491ec4945838dfe7ebaedbb1322ad"), looks := true }, kinds := [], alts := [], laidByText := true, laidKinds := [.data, .data, .data, .data, .sentinel, .sentinel, .pinned], laidTests := true, laidLooks := .later }
def RefThroughJoinedUptoCardSaid : Prop := Claim7.holds Tryd.pinned (.plain (OpenSpec.upto refThroughJoinedSpec)) refThroughJoinedUptoCard
end Rows
end Go.Proofs.YtdepdihdjghicaaDoor
