/-
  HAND: the document's examples answer true.
-/
import Derived.Test.YtmfekngjhiofaaaGreatDoorHHead
set_option linter.unusedVariables false
set_option linter.unusedSimpArgs false
namespace Go.Proofs.YtmfekngjhiofaaaGreatDoor.Q
open Go.RowKit Go.Proofs.YtmfekngjhiofaaaGreatDoorW.PrintWords
set_option maxRecDepth 100000 in
theorem head_true : proofmarklaw30_head.f 12 = some true := by
  decide +kernel
end Go.Proofs.YtmfekngjhiofaaaGreatDoor.Q
