/-
  HAND: from the rows' condition on the package-level variables to Tab; a start for the witness.
-/
import Derived.Test.YthegiggpkphieaaDoorRows
import Derived.Test.YthegiggpkphieaaDoorHTab
import Derived.ProofKit
import Derived.LaidMore
import Derived.OpenShut
import Derived.Stop.LaidErr
import Derived.Lib.LaidTab
import Derived.Deep.DeepHandedRow
import Derived.Deep.DeepWitnessRowRef
set_option linter.unusedVariables false
set_option linter.unusedSimpArgs false
namespace Go.Proofs.YthegiggpkphieaaDoor.Q
open Go.ChangeShapes Go.WideShapes Go.ChangeAt Go.RowKit Go.Proofs.YthegiggpkphieaaDoorW.PrintWords

/-- An array of strings that reads as the table holds the table's strings, cell for cell. -/
theorem cells_of_strs {H : Type} {enc : TypeId × Value → H} {P : Program} {w : World} {base : Nat} {sp : Nat → Bool} {held : Bool} {fuel : Nat} {t e : TypeId} {n : Nat} {cs : List Value} {zs : List (List UInt8)} {p : List MemPlace}
    (ht : P.underlying t = some (.array n e)) (he : P.underlying e = some .string) (hce : P.cellsOf e = 1) (hct : P.cellsOf t = n)
    (h : DataW.trod enc P w base sp held fuel t cs = some (DataW.agg (zs.map fun z => DataW.lit (Lit.string z)), p)) : ∀ (i : Nat) (z : List UInt8), zs[i]? = some z → ∃ s : ByteArray, cs[i]? = some (Value.string s) ∧ s.data.toList = z := by
  cases fuel with
  | zero => simp [DataW.trod] at h
  | succ fuel =>
    simp only [DataW.trod, ht, hce, hct, Nat.mul_one] at h
    split at h
    · rename_i hl
      obtain ⟨xs, hm, hx⟩ := Option.map_eq_some_iff.1 h
      have hxs : xs.map (·.1) = zs.map fun z => (DataW.lit (.string z) : DataW H) := by
        have := congrArg Prod.fst hx
        simpa using this
      have hxl : xs.length = n := by simpa using Lib.mapM_length hm
      have hzl : zs.length = n := by
        have := congrArg List.length hxs
        simp at this
        omega
      intro i z hz
      have hi : i < n := by have := (List.getElem?_eq_some_iff.1 hz).1; omega
      obtain ⟨b, hb, hf⟩ := Lib.mapM_at hm i i (by simp [hi])
      obtain ⟨s, hc, rfl, _⟩ := DataW.trod_string he hf
      have h1 : cs[i]? = some (.string s) := by
        have := congrArg (·[0]?) hc
        simpa [List.getElem?_take, List.getElem?_drop] using this
      have h2 : (xs.map (·.1))[i]? = some (DataW.lit (.string s.data.toList) : DataW H) := by simp [hb]
      rw [hxs] at h2
      simp only [List.getElem?_map, hz, Option.map_some, Option.some.injEq, DataW.lit.injEq, Lit.string.injEq] at h2
      exact ⟨s, h1, h2.symm⟩
    · cases h
def laidL {H : Type} : List (String × DataW H) := [("math/bits.deBruijn32tab", Rows.laid_math_bits_deBruijn32tab), ("math/bits.deBruijn64tab", Rows.laid_math_bits_deBruijn64tab), ("internal/strconv.uint64pow10", Rows.laid_internal_strconv_uint64pow10), ("strconv.ErrRange", Rows.laid_strconv_ErrRange), ("strconv.ErrSyntax", Rows.laid_strconv_ErrSyntax), ("proofmark/lex.signs", Rows.laid_proofmark_lex_signs)]
theorem gRange : Tryd.prog.globalNamed "strconv.ErrRange" = some 3 := by kernel_rfl
theorem gSyntax : Tryd.prog.globalNamed "strconv.ErrSyntax" = some 2 := by kernel_rfl
theorem gSigns : Tryd.prog.globalNamed "proofmark/lex.signs" = some 0 := by kernel_rfl
theorem tRange : (Tryd.prog.globals[3]?).map (·.type) = some 53 := by kernel_rfl
theorem tSyntax : (Tryd.prog.globals[2]?).map (·.type) = some 53 := by kernel_rfl
theorem tSigns : (Tryd.prog.globals[0]?).map (·.type) = some 57 := by kernel_rfl
theorem cStr : Tryd.prog.cellsOf 9 = 1 := by kernel_rfl
theorem cArr : Tryd.prog.cellsOf 57 = 25 := by kernel_rfl
/-- an interface variable's cell is nil, or holds a type and a value -/
theorem iface_cell {l : List (String × DataW Unit)} {n : String} {d : DataW Unit} {W : World} {g : Nat} (hg : Tryd.prog.globalNamed n = some g) (ht : (Tryd.prog.globals[g]?).map (·.type) = some 53) (h : laidMet Tryd.prog ((n, d) :: l) W) :
    ∃ ev, W.cell? ⟨g, 0, none⟩ = some ev ∧ (ev = .nilIface ∨ ∃ te pe, ev = .iface te pe) := by
  obtain ⟨ps, ⟨g0, t0, cs0, f0, p0, q0, hg0, ht0, hv0, hd0, _, e0⟩, _, hrows⟩ := h
  obtain rfl := Option.some.inj (hg.symm.trans hg0)
  obtain rfl := Option.some.inj (ht.symm.trans ht0)
  cases f0 with
  | zero => simp [DataW.trod] at hd0
  | succ f =>
    simp only [DataW.trod, Tryd.underlying53] at hd0
    obtain ⟨l0⟩ := cs0
    match l0, hd0, hv0 with
    | [], hd0, _ => simp at hd0
    | x :: y :: r, hd0, _ => simp at hd0
    | [x], hd0, hv0 =>
      refine ⟨x, by simpa using World.var?_cell hg0 hv0 0, ?_⟩
      cases x <;> first | exact .inl rfl | exact .inr ⟨_, _, rfl⟩ | (exfalso; simp at hd0)
theorem tab_of_laid {W : World} (h : laidMetH Tryd.prog laidL W) : Tab W := by
  rw [MakeChecks.laidMetH_plain _ _ _ (by kernel_rfl)] at h
  have h3 := h.tail.tail.tail
  have h4 := h3.tail
  have h5 := h4.tail
  refine ⟨?_, iface_cell gSyntax tSyntax h4, iface_cell gRange tRange h3⟩
  obtain ⟨ps, ⟨g', t', cs, fuel, p, q, hg', ht', hvar, hd, _, _⟩, _⟩ := h5
  obtain rfl := Option.some.inj (gSigns.symm.trans hg')
  obtain rfl := Option.some.inj (tSigns.symm.trans ht')
  intro j x hx
  obtain ⟨s, h1, h2⟩ := cells_of_strs (zs := signsB.map (·.data.toList)) Tryd.underlying57 Tryd.underlying9 cStr cArr hd j x.data.toList (by rw [List.getElem?_map, hx]; rfl)
  have e : s = x := by
    cases s with
    | mk d => cases x with
      | mk d' =>
        have : d.toList = d'.toList := h2
        rw [Array.toList_inj.1 this]
  subst e
  have := World.var?_cell hg' hvar j
  rw [this]
  simpa using h1
theorem door_met (os : Os) (args : Array Value) : laidMetH Tryd.prog laidL ((World.doorLaid Tryd.prog 67 os).forCall (fun _ _ => 0) ⟨#[], args, []⟩).memory :=
  laidMetH_of_parts3 (fuel := 8) (laidMet_of_run' 8 (by kernel_rfl) (by kernel_rfl)) (by kernel_rfl) (by kernel_rfl)
end Go.Proofs.YthegiggpkphieaaDoor.Q
