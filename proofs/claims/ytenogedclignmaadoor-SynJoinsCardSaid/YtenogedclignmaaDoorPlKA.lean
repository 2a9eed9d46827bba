/-
  HELPER.
-/
import Derived.Test.YtenogedclignmaaDoorPlWords
import Derived.Lib.Builder
namespace Go.Proofs.YtenogedclignmaaDoor.Q
open Go.RowKit Go.Proofs.YtenogedclignmaaDoorW.PrintWords Go.Proofs.YtenogedclignmaaDoorW.PrintLast Go.Proofs.YtenogedclignmaaDoorW.PrintMore
theorem aS {p : Prop} (h : p) : Aside0 p := ⟨h⟩
theorem cH {w : World} {b : Nat} {cs : Array Value} {T : TypeId} {fr : Nat × Nat} (hb : w.heap[b]? = some (.cells cs T fr)) (j : Nat) : w.cell? ⟨b, j, none⟩ = cs[j]? := Lib.cell_of_heap hb j
theorem sI {α : Type} {l : List α} {i : Nat} {a : α} : l.toArray.setIfInBounds i a = (l.set i a).toArray := List.setIfInBounds_toArray l i a
theorem s0' {α : Type} {l : List α} {a b : α} : (a :: l).set 0 b = b :: l := rfl
theorem s1' {α : Type} {l : List α} {i : Nat} {a b : α} : (a :: l).set (i + 1) b = a :: l.set i b := rfl
theorem bR (n : Nat) (w : World) : Below n w w := Below.refl n w
end Go.Proofs.YtenogedclignmaaDoor.Q
