/-
  DERIVED. GIVEN WITH THE SEED: THE CARDS: each row of YtcnlonaighlmbaaGreatDoorRows.lean that lists a variable, with what it lists TIED to the program's text (the seventh form; the later family's looks); each row that meets fmt, with fmt's text TOLD by the authors' own Lean function (tested against real Go, not proved from fmt's source: count such statements apart). THE CARD IS WHAT COUNTS. Prove the row's statement (the work); the ties are given (YtcnlonaighlmbaaGreatDoorTie.lean); close each card by the builder's one call (the guide's Derived/Test/ToyasCard.lean, 'card_holds'). Laid BY PROGRAM, IN A SANDBOX (cutbox-door.mjs). By AI agents, Wed Nov 11 2026. No macro, syntax, notation, axiom, sorry.
-/
import Derived.Test.YtcnlonaighlmbaaGreatDoorRows
import GoSem.ClaimSeven
namespace Go.Proofs.YtcnlonaighlmbaaGreatDoor
namespace Rows

/-- THE TIED CARD OF 'chancerykeep2.FtextParts'. -/
def ftextPartsCard : Claim7 := { stood := { row := ftextPartsRow, standIns := [], harness := (true, "3b1806285dc1bca2995ffb14e8501b407d2cbe57e1f0c898272eed22d1d2fce7"), looks := true }, kinds := [], alts := [], laidByText := true, laidKinds := [.data, .data, .data, .data, .sentinel, .sentinel, .data, .data, .data, .data, .data, .pinned, .pinned], laidTests := true, laidLooks := .later }
def FtextPartsCardSaid : Prop := Claim7.holds Tryz.pinned (.plain (OpenSpec.ofChange ftextPartsSpec)) ftextPartsCard

/-- THE TIED CARD OF 'chancerykeep2.FtextSplitsBack'. -/
def ftextSplitsBackCard : Claim7 := { stood := { row := ftextSplitsBackRow, standIns := [], harness := (true, "3b1806285dc1bca2995ffb14e8501b407d2cbe57e1f0c898272eed22d1d2fce7"), looks := true }, kinds := [], alts := [], laidByText := true, laidKinds := [.data, .data, .data, .data, .sentinel, .sentinel, .data, .data, .data, .data, .data, .pinned, .pinned], laidTests := true, laidLooks := .later }
def FtextSplitsBackCardSaid : Prop := Claim7.holds Tryz.pinned (.plain (OpenSpec.ofChange ftextSplitsBackSpec)) ftextSplitsBackCard

/-- THE TIED CARD OF 'chancerykeep2.FtextFinds'. -/
def ftextFindsCard : Claim7 := { stood := { row := ftextFindsRow, standIns := [], harness := (true, "3b1806285dc1bca2995ffb14e8501b407d2cbe57e1f0c898272eed22d1d2fce7"), looks := true }, kinds := [], alts := [], laidByText := true, laidKinds := [.data, .data, .data, .data, .sentinel, .sentinel, .data, .data, .data, .data, .data, .pinned, .pinned], laidTests := true, laidLooks := .later }
def FtextFindsCardSaid : Prop := Claim7.holds Tryz.pinned (.plain (OpenSpec.ofChange ftextFindsSpec)) ftextFindsCard

/-- THE TIED CARD OF 'chancerykeep2.FtextCases'. -/
def ftextCasesCard : Claim7 := { stood := { row := ftextCasesRow, standIns := [], harness := (true, "3b1806285dc1bca2995ffb14e8501b407d2cbe57e1f0c898272eed22d1d2fce7"), looks := true }, kinds := [], alts := [], laidByText := true, laidKinds := [.data, .data, .data, .data, .sentinel, .sentinel, .data, .data, .data, .data, .data, .pinned, .pinned], laidTests := true, laidLooks := .later }
def FtextCasesCardSaid : Prop := Claim7.holds Tryz.pinned (.plain (OpenSpec.ofChange ftextCasesSpec)) ftextCasesCard

/-- THE SECOND FORM's CARD OF 'chancerykeep2.FtextParts'. -/
def ftextPartsUptoCard : Claim7 := { stood := { row := ftextPartsUptoRow, standIns := [], harness := (true, "3b1806285dc1bca2995ffb14e8501b407d2cbe57e1f0c898272eed22d1d2fce7"), looks := true }, kinds := [], alts := [], laidByText := true, laidKinds := [.data, .data, .data, .data, .sentinel, .sentinel, .data, .data, .data, .data, .data, .pinned, .pinned], laidTests := true, laidLooks := .later }
def FtextPartsUptoCardSaid : Prop := Claim7.holds Tryz.pinned (.plain (OpenSpec.upto ftextPartsSpec)) ftextPartsUptoCard

/-- THE SECOND FORM's CARD OF 'chancerykeep2.FtextSplitsBack'. -/
def ftextSplitsBackUptoCard : Claim7 := { stood := { row := ftextSplitsBackUptoRow, standIns := [], harness := (true, "3b1806285dc1bca2995ffb14e8501b407d2cbe57e1f0c898272eed22d1d2fce7"), looks := true }, kinds := [], alts := [], laidByText := true, laidKinds := [.data, .data, .data, .data, .sentinel, .sentinel, .data, .data, .data, .data, .data, .pinned, .pinned], laidTests := true, laidLooks := .later }
def FtextSplitsBackUptoCardSaid : Prop := Claim7.holds Tryz.pinned (.plain (OpenSpec.upto ftextSplitsBackSpec)) ftextSplitsBackUptoCard

/-- THE SECOND FORM's CARD OF 'chancerykeep2.FtextFinds'. -/
def ftextFindsUptoCard : Claim7 := { stood := { row := ftextFindsUptoRow, standIns := [], harness := (true, "3b1806285dc1bca2995ffb14e8501b407d2cbe57e1f0c898272eed22d1d2fce7"), looks := true }, kinds := [], alts := [], laidByText := true, laidKinds := [.data, .data, .data, .data, .sentinel, .sentinel, .data, .data, .data, .data, .data, .pinned, .pinned], laidTests := true, laidLooks := .later }
def FtextFindsUptoCardSaid : Prop := Claim7.holds Tryz.pinned (.plain (OpenSpec.upto ftextFindsSpec)) ftextFindsUptoCard

/-- THE SECOND FORM's CARD OF 'chancerykeep2.FtextCases'. -/
def ftextCasesUptoCard : Claim7 := { stood := { row := ftextCasesUptoRow, standIns := [], harness := (true, "3b1806285dc1bca2995ffb14e8501b407d2cbe57e1f0c898272eed22d1d2fce7"), looks := true }, kinds := [], alts := [], laidByText := true, laidKinds := [.data, .data, .data, .data, .sentinel, .sentinel, .data, .data, .data, .data, .data, .pinned, .pinned], laidTests := true, laidLooks := .later }
def FtextCasesUptoCardSaid : Prop := Claim7.holds Tryz.pinned (.plain (OpenSpec.upto ftextCasesSpec)) ftextCasesUptoCard
end Rows
end Go.Proofs.YtcnlonaighlmbaaGreatDoor
