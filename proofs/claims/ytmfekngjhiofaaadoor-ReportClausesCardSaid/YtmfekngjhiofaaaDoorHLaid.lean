/-
  HAND: from the rows' condition on the package-level variables to Tab; a start for the witness.
-/
import Derived.Test.YtmfekngjhiofaaaDoorRows
import Derived.Test.YtmfekngjhiofaaaDoorHTab
import Derived.ProofKit
import Derived.LaidMore
import Derived.OpenShut
import Derived.Stop.LaidErr
import Derived.Lib.LaidTab
import Derived.Maps.OwnSet
import Derived.Maps.StringElems
import Derived.Deep.DeepHandedRow
import Derived.Deep.DeepWitnessRowRef
import Derived.Shelf.Vars
import Derived.Lib.LaidIn
set_option linter.unusedVariables false
set_option linter.unusedSimpArgs false
namespace Go.Proofs.YtmfekngjhiofaaaDoor.Q
open Go.ChangeShapes Go.WideShapes Go.ChangeAt Go.RowKit Go.Proofs.YtmfekngjhiofaaaDoorW.PrintWords

def laidL : List (String × DataW Unit) := [("math/bits.deBruijn32tab", Rows.laid_math_bits_deBruijn32tab), ("math/bits.deBruijn64tab", Rows.laid_math_bits_deBruijn64tab), ("internal/strconv.uint64pow10", Rows.laid_internal_strconv_uint64pow10), ("unicode/utf8.acceptRanges", Rows.laid_unicode_utf8_acceptRanges), ("proofmark/report.words", Rows.laid_proofmark_report_words), ("unicode/utf8.first", Rows.laid_unicode_utf8_first)]
theorem gPow : Tryd.prog.globalNamed "internal/strconv.uint64pow10" = some 1 := by kernel_rfl
theorem gWords : Tryd.prog.globalNamed "proofmark/report.words" = some 0 := by kernel_rfl
theorem tPow : (Tryd.prog.globals[1]?).map (·.type) = some 151 := by kernel_rfl
theorem tWords : (Tryd.prog.globals[0]?).map (·.type) = some 90 := by kernel_rfl
theorem cU : Tryd.prog.cellsOf 122 = 1 := by kernel_rfl
theorem cPow : Tryd.prog.cellsOf 151 = 20 := by kernel_rfl
theorem max_of_shape {W : World} (h : W.ShapedOpen Tryd.prog) : ∃ m, W.cell? ⟨2, 0, none⟩ = some (.int .i64 m) :=
  cell_of_shapedOpen_int (zero := #[.int .i64 0]) h (of_decide_eq_true (by kernel_rfl)) (t := 3) (by kernel_rfl) (by kernel_rfl) (by kernel_rfl) (by kernel_rfl) Tryd.underlying3
theorem tab_of_laid {W : World} (h : laidMetH Tryd.prog laidL W) (hsh : W.ShapedOpen Tryd.prog) : Tab W := by
  rw [MakeChecks.laidMetH_plain _ _ _ (by kernel_rfl)] at h
  have h3 := h.tail.tail
  have h4 := h3.tail.tail
  refine ⟨Lib.tabBelow_of_tabIs (Lib.tabIs_of_head gPow tPow Tryd.underlying151 Tryd.underlying122 cU cPow h3), ?_, max_of_shape hsh⟩
  obtain ⟨ps, ⟨g', t', cs, fuel, p, q, hg', ht', hvar, hd, _, _⟩, _⟩ := h4
  obtain rfl := Option.some.inj (gWords.symm.trans hg')
  obtain rfl := Option.some.inj (tWords.symm.trans ht')
  rcases WideElems.open_map Tryd.underlying90 hd with ⟨_, hx⟩ | ⟨b, es, clock, n, rfl, hcs, hb, _, F, hx⟩
  · cases hx
  · refine ⟨b, es.size, ?_, ?_⟩
    · have h0 := World.var?_cell hg' hvar 0
      rw [h0]
      have : cs.toList[0]? = some (Value.map (some b)) := by rw [hcs]; rfl
      simpa using this
    · have hown := World.ownsMap_of_fit (R := plainElem Tryd.prog 9) hb F (fun x _ z hz => elemAt_plainElem_string Tryd.underlying9 hz)
      have he := (Prod.mk.inj hx).1
      unfold wordsD
      rw [he]
      exact hown
/-- the door's world, with utf8's pinned table laid -/
noncomputable def doorC (os : Os) : World :=
  let w0 := World.doorLaid Tryd.prog 177 os
  { w0 with heap := w0.heap.modify 7 fun
    | .cells _ t frozen => .cells (Go.Pinned.utf8FirstZ.map fun (z : Nat) => Value.int .u8 (z : Int)).toArray t frozen
    | o => o }
theorem door_met (os : Os) (args : Array Value) : laidMetH Tryd.prog laidL ((doorC os).forCall (fun _ _ => 0) ⟨#[], args, []⟩).memory :=
  laidMetH_of_parts3 (fuel := 8) (LaidIn.of_run (List.range 400) 8 (by kernel_rfl) (by kernel_rfl) (by kernel_rfl) (by kernel_rfl)).met (by kernel_rfl) (by kernel_rfl)
end Go.Proofs.YtmfekngjhiofaaaDoor.Q
