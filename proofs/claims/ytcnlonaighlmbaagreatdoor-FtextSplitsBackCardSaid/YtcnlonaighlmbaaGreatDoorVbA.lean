/- cmp.Compare of strings, cmp.Or of two integers. -/
import Derived.Test.YtcnlonaighlmbaaGreatDoorHaf
import Derived.Test.YtcnlonaighlmbaaGreatDoorHaa
import Derived.Test.YtcnlonaighlmbaaGreatDoorHaa
import Derived.WalkKit
import Derived.WalkLawsBesides
import Derived.Outline
import Derived.Lib.Hide
import Derived.Lib.Strings
import Derived.LoopTactic
set_option linter.unusedSimpArgs false
set_option linter.unusedVariables false
namespace Go.Proofs.YtcnlonaighlmbaaGreatDoor
open Go.RowKit

end Go.Proofs.YtcnlonaighlmbaaGreatDoor
