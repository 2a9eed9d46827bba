/-
  HAND: from the rows' condition on the package-level variables to Tab; a start for the witness.
-/
import Derived.Test.YtmfekngjhiofaaaGreatDoorRows
import Derived.Test.YtmfekngjhiofaaaGreatDoorHTab
import Derived.ProofKit
import Derived.LaidMore
import Derived.OpenShut
import Derived.Stop.LaidErr
import Derived.Lib.LaidTab
import Derived.Maps.OwnSet
import Derived.Maps.StringElems
import Derived.Deep.DeepHandedRow
import Derived.Deep.DeepWitnessRowRef
import Derived.Shelf.Vars
import Derived.Lib.LaidIn
set_option linter.unusedVariables false
set_option linter.unusedSimpArgs false
namespace Go.Proofs.YtmfekngjhiofaaaGreatDoor.Q
open Go.ChangeShapes Go.WideShapes Go.ChangeAt Go.RowKit Go.Proofs.YtmfekngjhiofaaaGreatDoorW.PrintWords

def laidL : List (String × DataW Unit) := [("math/bits.deBruijn32tab", Rows.laid_math_bits_deBruijn32tab), ("math/bits.deBruijn64tab", Rows.laid_math_bits_deBruijn64tab), ("internal/strconv.uint64pow10", Rows.laid_internal_strconv_uint64pow10), ("unicode/utf8.acceptRanges", Rows.laid_unicode_utf8_acceptRanges), ("strconv.ErrRange", Rows.laid_strconv_ErrRange), ("strconv.ErrSyntax", Rows.laid_strconv_ErrSyntax), ("proofmark/report.words", Rows.laid_proofmark_report_words), ("unicode/utf8.first", Rows.laid_unicode_utf8_first)]
theorem gPow : Tryz.prog.globalNamed "internal/strconv.uint64pow10" = some 1 := by kernel_rfl
theorem tPow : (Tryz.prog.globals[1]?).map (·.type) = some 160 := by kernel_rfl
theorem gRange : Tryz.prog.globalNamed "strconv.ErrRange" = some 3 := by kernel_rfl
theorem gSyntax : Tryz.prog.globalNamed "strconv.ErrSyntax" = some 2 := by kernel_rfl
theorem tRange : (Tryz.prog.globals[3]?).map (·.type) = some 85 := by kernel_rfl
theorem tSyntax : (Tryz.prog.globals[2]?).map (·.type) = some 85 := by kernel_rfl
theorem gWords : Tryz.prog.globalNamed "proofmark/report.words" = some 0 := by kernel_rfl
theorem tWords : (Tryz.prog.globals[0]?).map (·.type) = some 126 := by kernel_rfl
theorem cU : Tryz.prog.cellsOf 135 = 1 := by kernel_rfl
theorem cPow : Tryz.prog.cellsOf 160 = 20 := by kernel_rfl
/-- an interface variable's cell is nil, or holds a type and a value -/
theorem iface_cell {l : List (String × DataW Unit)} {n : String} {d : DataW Unit} {W : World} {g : Nat} (hg : Tryz.prog.globalNamed n = some g) (ht : (Tryz.prog.globals[g]?).map (·.type) = some 85) (h : laidMet Tryz.prog ((n, d) :: l) W) :
    ∃ ev, W.cell? ⟨g, 0, none⟩ = some ev ∧ (ev = .nilIface ∨ ∃ te pe, ev = .iface te pe) := by
  obtain ⟨ps, ⟨g0, t0, cs0, f0, p0, q0, hg0, ht0, hv0, hd0, _, e0⟩, _, hrows⟩ := h
  obtain rfl := Option.some.inj (hg.symm.trans hg0)
  obtain rfl := Option.some.inj (ht.symm.trans ht0)
  cases f0 with
  | zero => simp [DataW.trod] at hd0
  | succ f =>
    simp only [DataW.trod, Tryz.underlying85] at hd0
    obtain ⟨l0⟩ := cs0
    match l0, hd0, hv0 with
    | [], hd0, _ => simp at hd0
    | x :: y :: r, hd0, _ => simp at hd0
    | [x], hd0, hv0 =>
      refine ⟨x, by simpa using World.var?_cell hg0 hv0 0, ?_⟩
      cases x <;> first | exact .inl rfl | exact .inr ⟨_, _, rfl⟩ | (exfalso; simp at hd0)
theorem max_of_shape {W : World} (h : W.ShapedOpen Tryz.prog) : ∃ m, W.cell? ⟨4, 0, none⟩ = some (.int .i64 m) :=
  cell_of_shapedOpen_int (zero := #[.int .i64 0]) h (of_decide_eq_true (by kernel_rfl)) (t := 3) (by kernel_rfl) (by kernel_rfl) (by kernel_rfl) (by kernel_rfl) Tryz.underlying3
theorem tab_of_laid {W : World} (h : laidMetH Tryz.prog laidL W) (hsh : W.ShapedOpen Tryz.prog) : Tab W := by
  rw [MakeChecks.laidMetH_plain _ _ _ (by kernel_rfl)] at h
  have h3 := h.tail.tail
  have h5 := h3.tail.tail
  have h7 := h5.tail.tail
  refine ⟨Lib.tabBelow_of_tabIs (Lib.tabIs_of_head gPow tPow Tryz.underlying160 Tryz.underlying135 cU cPow h3), ?_, max_of_shape hsh, ⟨iface_cell gSyntax tSyntax h5.tail, iface_cell gRange tRange h5⟩⟩
  obtain ⟨ps, ⟨g', t', cs, fuel, p, q, hg', ht', hvar, hd, _, _⟩, _⟩ := h7
  obtain rfl := Option.some.inj (gWords.symm.trans hg')
  obtain rfl := Option.some.inj (tWords.symm.trans ht')
  rcases WideElems.open_map Tryz.underlying126 hd with ⟨_, hx⟩ | ⟨b, es, clock, n, rfl, hcs, hb, _, F, hx⟩
  · cases hx
  · refine ⟨b, es.size, ?_, ?_⟩
    · have h0 := World.var?_cell hg' hvar 0
      rw [h0]
      have : cs.toList[0]? = some (Value.map (some b)) := by rw [hcs]; rfl
      simpa using this
    · have hown := World.ownsMap_of_fit (R := plainElem Tryz.prog 9) hb F (fun x _ z hz => elemAt_plainElem_string Tryz.underlying9 hz)
      have he := (Prod.mk.inj hx).1
      unfold wordsD
      rw [he]
      exact hown
/-- the door's world, with utf8's pinned table laid -/
noncomputable def doorC (os : Os) : World :=
  let w0 := World.doorLaid Tryz.prog 177 os
  { w0 with heap := w0.heap.modify 5 fun
    | .cells _ t frozen => .cells (Go.Pinned.utf8FirstZ.map fun (z : Nat) => Value.int .u8 (z : Int)).toArray t frozen
    | o => o }
theorem door_met (os : Os) (args : Array Value) : laidMetH Tryz.prog laidL ((doorC os).forCall (fun _ _ => 0) ⟨#[], args, []⟩).memory :=
  laidMetH_of_parts3 (fuel := 8) (LaidIn.of_run (List.range 400) 8 (by kernel_rfl) (by kernel_rfl) (by kernel_rfl) (by kernel_rfl)).met (by kernel_rfl) (by kernel_rfl)
end Go.Proofs.YtmfekngjhiofaaaGreatDoor.Q
