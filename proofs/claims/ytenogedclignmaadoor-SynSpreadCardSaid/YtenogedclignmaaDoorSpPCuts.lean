/-
  HELPER.
-/
import Derived.Test.YtenogedclignmaaDoorSpK25
import Derived.Test.YtenogedclignmaaDoorSpPMod2
set_option linter.unusedVariables false
set_option linter.unusedSimpArgs false
namespace Go.Proofs.YtenogedclignmaaDoor.Q
open Go.NumPure Go.RowKit Go.Proofs.YtenogedclignmaaDoorW.PrintWords Go.Proofs.YtenogedclignmaaDoorW.PrintLast Go.Proofs.YtenogedclignmaaDoorW.PrintMore
theorem j_same {a b : List Tok} (h : a.map sg = b.map sg) : J 0 0 a b := fun _ =>
  ⟨by have := congrArg List.length h; simp at this; omega, fun i _ => by rw [← List.getElem?_map, ← List.getElem?_map, h]⟩
theorem prs_fuel {k : Nat} {l : List Tok} {y : List Mdl × List Wr} (h : modulesP k 0 [] [] l = some y) : prs l = some y := by
  obtain ⟨z, hz⟩ := prs_some l
  have h1 := mono_modules' (Nat.le_max_left k (12 * l.length + 3)) 0 [] [] l y h
  have h2 := mono_modules' (Nat.le_max_right k (12 * l.length + 3)) 0 [] [] l z hz
  rw [h1] at h2
  rw [hz, ← h2]
theorem prs_sg {a b : List Tok} (h : a.map sg = b.map sg) {ms : List Mdl} {fs : List Wr} (hp : prs a = some (ms, fs)) : ∃ gs, prs b = some (ms, gs) ∧ FR fs gs := by
  obtain ⟨gs, h1, h2⟩ := sp_modules _ 0 [] [] [] a b (j_same h) .nil (ms, fs) hp
  exact ⟨gs, prs_fuel h1, h2⟩
end Go.Proofs.YtenogedclignmaaDoor.Q
