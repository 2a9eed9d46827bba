/-
  HELPER.
-/
import Derived.Test.YtenogedclignmaaDoorPlK25
import Derived.Test.YtenogedclignmaaDoorPlKA
import Derived.Test.YtenogedclignmaaDoorCuWords
import Derived.Test.YtenogedclignmaaDoorCuK24
set_option linter.unusedVariables false
set_option linter.unusedSimpArgs false
namespace Go.Proofs.YtenogedclignmaaDoor.Q
open Go.NumPure Go.RowKit Go.Proofs.YtenogedclignmaaDoorW.PrintWords Go.Proofs.YtenogedclignmaaDoorW.PrintLast Go.Proofs.YtenogedclignmaaDoorW.PrintMore
theorem ext_take (s : ByteArray) (n : Nat) : (s.extract 0 n).data.toList = s.data.toList.take n := by
 simp only [ByteArray.data_extract, Array.toList_extract, List.extract_eq_take_drop]; simp
theorem tok_count {s : ByteArray} : ((LexP.lxA s.data.toList 0).1.map toS).length ≤ s.size := by
 have h1 := lxA_count s.data.toList.length s.data.toList 0 (Nat.le_refl _)
 have h2 : s.data.toList.length = s.size := by simp
 rw [List.length_map]; omega
theorem head_true : proofmarklaw02_head.f = some true := rfl
theorem same_true {l m : List Mdl} (h : l = m) : proofmarkref02_Same.f l m = some true := by unfold proofmarkref02_Same.f; rw [if_pos h]
end Go.Proofs.YtenogedclignmaaDoor.Q
