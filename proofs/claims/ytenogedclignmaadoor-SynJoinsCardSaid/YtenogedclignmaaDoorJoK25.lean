/-
  HELPER.
-/
import Derived.Test.YtenogedclignmaaDoorPlK25
import Derived.Test.YtenogedclignmaaDoorPlKA
import Derived.Test.YtenogedclignmaaDoorJoWords
import Derived.Test.YtenogedclignmaaDoorJoK24
set_option linter.unusedVariables false
set_option linter.unusedSimpArgs false
namespace Go.Proofs.YtenogedclignmaaDoor.Q
open Go.NumPure Go.RowKit Go.Proofs.YtenogedclignmaaDoorW.PrintWords Go.Proofs.YtenogedclignmaaDoorW.PrintLast Go.Proofs.YtenogedclignmaaDoorW.PrintMore
theorem lex_good {s : ByteArray} (hs : s.size ≤ 20000) (h : (LexP.lxA s.data.toList 0).2 = none) : lex_Lex.f s = some ((LexP.lxA s.data.toList 0).1.map toS, 0, 0) := by rw [lex_small s hs, lexF_ok _ _ h]
theorem head_true : proofmarklaw02_head.f = some true := rfl
theorem same_true {l m : List Mdl} (h : l = m) : proofmarkref02_Same.f l m = some true := by unfold proofmarkref02_Same.f; rw [if_pos h]
end Go.Proofs.YtenogedclignmaaDoor.Q
