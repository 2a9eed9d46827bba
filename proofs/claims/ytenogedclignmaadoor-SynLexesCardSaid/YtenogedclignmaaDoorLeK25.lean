/-
  HELPER.
-/
import Derived.Test.YtenogedclignmaaDoorPlK25
import Derived.Test.YtenogedclignmaaDoorPlKA
import Derived.Test.YtenogedclignmaaDoorLeWords
import Derived.Test.YtenogedclignmaaDoorLeK24
set_option linter.unusedVariables false
set_option linter.unusedSimpArgs false
namespace Go.Proofs.YtenogedclignmaaDoor.Q
open Go.NumPure Go.RowKit Go.Proofs.YtenogedclignmaaDoorW.PrintWords Go.Proofs.YtenogedclignmaaDoorW.PrintLast Go.Proofs.YtenogedclignmaaDoorW.PrintMore
theorem head_true : proofmarklaw02_head.f = some true := rfl
theorem faults_true {l m : List Flt} (h : l = m) : proofmarkref02_SameFaults.f l m = some true := by unfold proofmarkref02_SameFaults.f; rw [if_pos h]
end Go.Proofs.YtenogedclignmaaDoor.Q
