/-
  THE PLAIN FORMS, WITH THE WORLD NAMED AT EACH STEP, by a program.
-/
import Derived.Test.YtoealglbimbbmaaGreatDoorSPointA
namespace Go.Proofs.YtoealglbimbbmaaGreatDoor.S
open Go Go.Proofs
set_option linter.unusedVariables false
set_option maxRecDepth 100000

end Go.Proofs.YtoealglbimbbmaaGreatDoor.S
