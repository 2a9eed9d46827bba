/-
  HELPER.
-/
import Derived.Test.YtenogedclignmaaDoorPlK24
import Derived.Test.YtenogedclignmaaDoorPlKA
import Derived.Test.YtenogedclignmaaDoorLeWords
import Derived.Test.YtenogedclignmaaDoorPlK21
import Derived.Test.YtenogedclignmaaDoorLeK1
import Derived.Test.YtenogedclignmaaDoorLeK0
import Derived.Test.YtenogedclignmaaDoorLeK5
import Derived.Test.YtenogedclignmaaDoorPlK23
set_option linter.unusedVariables false
set_option linter.unusedSimpArgs false
namespace Go.Proofs.YtenogedclignmaaDoor.Q
open Go.RowKit Go.Proofs.YtenogedclignmaaDoorW.PrintWords Go.Proofs.YtenogedclignmaaDoorW.PrintLast Go.Proofs.YtenogedclignmaaDoorW.PrintMore
attribute [local go_sem] max2_int min2_int max_two min_two
theorem proofmarkref02_SameFaults.calls (A0 : Option Addr) (c0 : Nat) (l0 : List Flt) (A1 : Option Addr) (c1 : Nat) (l1 : List Flt) (r : Bool) (w : World) (hr0 : Kd.C k35 w A0 l0.length l0) (hc0 : l0.length ≤ c0) (hr1 : Kd.C k35 w A1 l1.length l1) (hc1 : l1.length ≤ c1) (h : proofmarkref02_SameFaults.f l0 l1 = some r) :
  Calls Tryd.prog 15 #[.slice A0 l0.length c0, .slice A1 l1.length c1] w fun e w' => e = .returned (.bool r) ∧ Below w.heap.size w w' := by
 unfold proofmarkref02_SameFaults.f at h
 by_cases he : l0 = l1
 ·rw [if_pos he] at h
  cases h
  subst he
  exact same_faults l0 A0 c0 A1 c1 w hr0 hr1
 ·rw [if_neg he] at h; cases h
end Go.Proofs.YtenogedclignmaaDoor.Q
