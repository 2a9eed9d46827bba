/-
  HELPER.
-/
import Derived.Test.YtenogedclignmaaDoorJoPSim
set_option linter.unusedVariables false
set_option linter.unusedSimpArgs false
namespace Go.Proofs.YtenogedclignmaaDoor.Q
open Go.RowKit Go.Proofs.YtenogedclignmaaDoorW.PrintWords Go.Proofs.YtenogedclignmaaDoorW.PrintLast Go.Proofs.YtenogedclignmaaDoorW.PrintMore
section
variable {q : List Tok} {α β : Type}
def Z (V : α → α → Prop) (v : α) (z : Option (PR α)) : Prop := (∃ v2, z = some (.ok v2 []) ∧ V v2 v) ∨ z = some (.bad 21 []) ∨ z = none
def C (V : α → α → Prop) (q : List Tok) (x z : Option (PR α)) : Prop := ∀ v r, x = some (.ok v r) → (∃ p, p ≠ [] ∧ r = p ++ q ∧ z = some (.ok v p)) ∨ Z V v z
theorem and_ok' {x : Option (PR α)} {f : α → List Tok → Option (PR β)} {w : β} {r' : List Tok} (h : andThen x f = some (.ok w r')) : ∃ v r, x = some (.ok v r) ∧ f v r = some (.ok w r') := by
 cases x with
 | none => cases h
 | some y =>
  cases y with
  | bad e t => cases h
  | ok v r => exact ⟨v, r, rfl, h⟩
end
end Go.Proofs.YtenogedclignmaaDoor.Q
