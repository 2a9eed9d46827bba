/-
  HELPER.
-/
import Derived.Test.YtenogedclignmaaDoorSpPSim
set_option linter.unusedVariables false
set_option linter.unusedSimpArgs false
namespace Go.Proofs.YtenogedclignmaaDoor.Q
open Go.RowKit Go.Proofs.YtenogedclignmaaDoorW.PrintWords Go.Proofs.YtenogedclignmaaDoorW.PrintLast Go.Proofs.YtenogedclignmaaDoorW.PrintMore
section
variable {q : List Tok} {α β : Type}
def Z (V : α → α → Prop) (v : α) (z : Option (PR α)) : Prop := (∃ v2, z = some (.ok v2 []) ∧ V v2 v) ∨ z = some (.bad 21 []) ∨ z = none
def C (V : α → α → Prop) (q : List Tok) (x z : Option (PR α)) : Prop := ∀ v r, x = some (.ok v r) → (∃ p, p ≠ [] ∧ r = p ++ q ∧ z = some (.ok v p)) ∨ Z V v z
end
end Go.Proofs.YtenogedclignmaaDoor.Q
