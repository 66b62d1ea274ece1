/-
  NARROWER THAN 'FOR EVERY INPUT', by the rows' own cells (each row's printed sentence says how): SquashBack: laid · SquashDamaged: laid.
  DERIVED. THE GIVEN ROWS OF THIS SEAT. 2 by the template 'for every input the law returns true; each argument reads behind the call as it read before'; 0 by the template 'total and deterministic' (their statements: YtcojoigbcfaajaaDoorTotals.lean).
  GIVEN WITH THE SEED: the statements are not yours to turn. If you find one false, say at which input.
  Laid BY PROGRAM, IN A SANDBOX (cutbox-rows.mjs): the forced cells as the released guide's own fill.sh prints them over the translation 6ce0618598498328… (all of the seat's roots in one cut). By AI agents, Wed Nov 11 2026. No macro, syntax, notation, axiom, sorry.
-/
import Derived.Test.YtcojoigbcfaajaaDoorChecked
import GoSem.Claim
import GoSem.ClaimJoined
import GoSem.ClaimMapViews
import Derived.JoinedTies
import Derived.KernelRfl
namespace Go.Proofs.YtcojoigbcfaajaaDoor
/- THE CELL 'sum', in the pinned program and in every row, IS THE sha256 OF THE DUMP (.gsa) THAT YtcojoigbcfaajaaDoorProg.lean LOADS. Nothing in Lean hashes anything: it is a label: what it is worth is what the hold of that sum in a sandbox is worth. -/
noncomputable def Tryd.pinned : Pinned := { name := "ytcojoigbcfaajaadoor", sum := "6ce06185984983282f4e7ffecdbbc66d79ee68a8e42bbd0f18266f4503b1111c", checked := Tryd.checked }
namespace Rows
def none {H : Type} : Left H := { results := [], args := [] }

/- WHAT THE LISTED PACKAGE-LEVEL VARIABLES READ AS WHEN THE CALL BEGINS. Each datum BY PROGRAM (the guide's laid-datum.mjs) off the statement by which the dump's own 'gosem.cut.vars' lays the variable. In a bare row this is a premise. The card (YtcojoigbcfaajaaDoorCards.lean) ties it to the program's text. -/
def laid_chancery_squash_bases {H : Type} : DataW H := .agg [.lit (.int .i64 11), .lit (.int .i64 13), .lit (.int .i64 17), .lit (.int .i64 25), .lit (.int .i64 41), .lit (.int .i64 73), .lit (.int .i64 137), .lit (.int .i64 265)]

/-- 'chancerykeep2.SquashBack': WHATEVER THE INPUT: true; the input reads as it did. -/
def squashBackSpec : ChangeSpec := { name := "squashBack", fn := fun _ => fun
  | [d1, d2] => { results := [.lit (.bool true)], args := [d1, d2] }
  | _ => none }
def squashBackRow : OpenClaim := { program := "ytcojoigbcfaajaadoor", sum := "6ce06185984983282f4e7ffecdbbc66d79ee68a8e42bbd0f18266f4503b1111c", func := "chancery/chancerykeep2.SquashBack", spec := "squashBack", inPlace := ["internal/abi.NoEscape", "internal/bytealg.MakeNoZero"], unfollowed := true, recurses := true, named := ["chancery/squash.bases"], apart := false, laid := [("chancery/squash.bases", laid_chancery_squash_bases)] }
def SquashBackSaid : Prop := squashBackRow.holds Tryd.pinned (OpenSpec.ofChange squashBackSpec)

/-- ITS FALSE NEIGHBOUR: 'it returns false'. Refute it at one input. -/
def squashBackWrong : ChangeSpec := { name := "squashBack", fn := fun _ => fun
  | [d1, d2] => { results := [.lit (.bool false)], args := [d1, d2] }
  | _ => none }
def SquashBackWrongFalsely : Prop := squashBackRow.holds Tryd.pinned (OpenSpec.ofChange squashBackWrong)

/-- 'chancerykeep2.SquashDamaged': WHATEVER THE INPUT: true; the input reads as it did. -/
def squashDamagedSpec : ChangeSpec := { name := "squashDamaged", fn := fun _ => fun
  | [d1, d2, d3] => { results := [.lit (.bool true)], args := [d1, d2, d3] }
  | _ => none }
def squashDamagedRow : OpenClaim := { program := "ytcojoigbcfaajaadoor", sum := "6ce06185984983282f4e7ffecdbbc66d79ee68a8e42bbd0f18266f4503b1111c", func := "chancery/chancerykeep2.SquashDamaged", spec := "squashDamaged", inPlace := ["internal/abi.NoEscape", "internal/bytealg.MakeNoZero"], unfollowed := true, recurses := true, named := ["chancery/squash.bases"], apart := false, laid := [("chancery/squash.bases", laid_chancery_squash_bases)] }
def SquashDamagedSaid : Prop := squashDamagedRow.holds Tryd.pinned (OpenSpec.ofChange squashDamagedSpec)

/-- ITS FALSE NEIGHBOUR: 'it returns false'. Refute it at one input. -/
def squashDamagedWrong : ChangeSpec := { name := "squashDamaged", fn := fun _ => fun
  | [d1, d2, d3] => { results := [.lit (.bool false)], args := [d1, d2, d3] }
  | _ => none }
def SquashDamagedWrongFalsely : Prop := squashDamagedRow.holds Tryd.pinned (OpenSpec.ofChange squashDamagedWrong)

/- THE SECOND FORM. 'bulk': how many values and letters a reading holds, each counted each time it is reached (what is shared counts as often as it is met; a slice's spare places count too). A statement '..UptoSaid' is the law's where the arguments, and the package variables that the reading takes, are together of bulk at most 1048576: NARROWER than '..Said'. Prove '..Said' where nothing that the law and all that it calls make is longer than what came in: it says more and counts as full. Else prove '..UptoSaid'. A law counts once. -/
mutual
def uptoBulk {H : Type} : DataW H → Nat
  | .lit (.string bytes) => bytes.length + 1
  | .lit _ => 1
  | .nil => 1
  | .ptr d => uptoBulk d + 1
  | .slice elems spare => uptoBulkAll elems + uptoBulkAll spare + 1
  | .agg parts => uptoBulkAll parts + 1
  | .iface _ d => uptoBulk d + 1
  | .map entries => uptoBulkEntries entries + 1
  | .held _ => 1
def uptoBulkAll {H : Type} : List (DataW H) → Nat
  | [] => 0
  | d :: r => uptoBulk d + uptoBulkAll r
def uptoBulkEntries {H : Type} : List (Lit × DataW H) → Nat
  | [] => 0
  | x :: r => uptoBulkEntry x + uptoBulkEntries r
def uptoBulkEntry {H : Type} : Lit × DataW H → Nat
  | (.string bytes, d) => bytes.length + uptoBulk d + 1
  | (_, d) => uptoBulk d + 1
 end
def uptoSmall : (H : Type) → List (DataW H) → Bool := fun _ ds => decide (uptoBulkAll ds ≤ 1048576)
def OpenSpec.upto (s : _root_.Go.ChangeSpec) : _root_.Go.OpenSpec := { _root_.Go.OpenSpec.ofChange s with cond := some uptoSmall }

/-- 'chancerykeep2.SquashBack', WHERE WHAT IT READS IS OF BULK AT MOST 1048576: true; the input reads as it did. -/
def squashBackUptoRow : OpenClaim := { program := "ytcojoigbcfaajaadoor", sum := "6ce06185984983282f4e7ffecdbbc66d79ee68a8e42bbd0f18266f4503b1111c", func := "chancery/chancerykeep2.SquashBack", spec := "squashBack", inPlace := ["internal/abi.NoEscape", "internal/bytealg.MakeNoZero"], unfollowed := true, recurses := true, named := ["chancery/squash.bases"], apart := false, laid := [("chancery/squash.bases", laid_chancery_squash_bases)], narrowed := true }
def SquashBackUptoSaid : Prop := squashBackUptoRow.holds Tryd.pinned (OpenSpec.upto squashBackSpec)

/-- 'chancerykeep2.SquashDamaged', WHERE WHAT IT READS IS OF BULK AT MOST 1048576: true; the input reads as it did. -/
def squashDamagedUptoRow : OpenClaim := { program := "ytcojoigbcfaajaadoor", sum := "6ce06185984983282f4e7ffecdbbc66d79ee68a8e42bbd0f18266f4503b1111c", func := "chancery/chancerykeep2.SquashDamaged", spec := "squashDamaged", inPlace := ["internal/abi.NoEscape", "internal/bytealg.MakeNoZero"], unfollowed := true, recurses := true, named := ["chancery/squash.bases"], apart := false, laid := [("chancery/squash.bases", laid_chancery_squash_bases)], narrowed := true }
def SquashDamagedUptoSaid : Prop := squashDamagedUptoRow.holds Tryd.pinned (OpenSpec.upto squashDamagedSpec)

end Rows
end Go.Proofs.YtcojoigbcfaajaaDoor
