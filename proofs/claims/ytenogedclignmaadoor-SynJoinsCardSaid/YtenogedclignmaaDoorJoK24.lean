/-
  HELPER.
-/
import Derived.Test.YtenogedclignmaaDoorPlK24
import Derived.Test.YtenogedclignmaaDoorPlKA
import Derived.Test.YtenogedclignmaaDoorJoWords
import Derived.Test.YtenogedclignmaaDoorPlK21
import Derived.Test.YtenogedclignmaaDoorJoK1
import Derived.Test.YtenogedclignmaaDoorJoK11
import Derived.Test.YtenogedclignmaaDoorJoK23
set_option linter.unusedVariables false
set_option linter.unusedSimpArgs false
namespace Go.Proofs.YtenogedclignmaaDoor.Q
open Go.RowKit Go.Proofs.YtenogedclignmaaDoorW.PrintWords Go.Proofs.YtenogedclignmaaDoorW.PrintLast Go.Proofs.YtenogedclignmaaDoorW.PrintMore
attribute [local go_sem] max2_int min2_int max_two min_two
theorem proofmarkref02_Same.calls (A0_0 : Option Addr) (c0_0 : Nat) (l0_0 : List Mdl) (A1_0 : Option Addr) (c1_0 : Nat) (l1_0 : List Mdl) (r : Bool) (w : World) (hr0_0 : Kd.C k47 w A0_0 l0_0.length l0_0) (hc0_0 : l0_0.length ≤ c0_0) (hr1_0 : Kd.C k47 w A1_0 l1_0.length l1_0) (hc1_0 : l1_0.length ≤ c1_0) (h : proofmarkref02_Same.f l0_0 l1_0 = some r) :
  Calls Tryd.prog 13 #[.agg #[.slice A0_0 l0_0.length c0_0], .agg #[.slice A1_0 l1_0.length c1_0]] w fun e w' => e = .returned (.bool r) ∧ Below w.heap.size w w' := by
 unfold proofmarkref02_Same.f at h
 by_cases he : l0_0 = l1_0
 ·rw [if_pos he] at h
  cases h
  subst he
  exact same_design l0_0 A0_0 c0_0 A1_0 c1_0 w hr0_0 hr1_0
 ·rw [if_neg he] at h; cases h
end Go.Proofs.YtenogedclignmaaDoor.Q
