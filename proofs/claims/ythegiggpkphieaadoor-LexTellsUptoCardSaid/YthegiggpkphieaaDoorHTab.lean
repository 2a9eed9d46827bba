/-
  HAND: what the package-level variables that lex reads hold, and that it stays so.
-/
import Derived.Test.YthegiggpkphieaaDoorQx0
set_option linter.unusedVariables false
set_option linter.unusedSimpArgs false
namespace Go.Proofs.YthegiggpkphieaaDoor.Q
open Go.RowKit Go.Proofs.YthegiggpkphieaaDoorW.PrintWords Go.Proofs.YthegiggpkphieaaDoorW.PrintLast Go.Proofs.YthegiggpkphieaaDoorW.PrintMore

def signsB : List ByteArray := [⟨#[60, 61]⟩, ⟨#[61, 61]⟩, ⟨#[33, 61]⟩, ⟨#[40]⟩, ⟨#[41]⟩, ⟨#[123]⟩, ⟨#[125]⟩, ⟨#[60]⟩, ⟨#[62]⟩, ⟨#[91]⟩, ⟨#[93]⟩, ⟨#[58]⟩, ⟨#[59]⟩, ⟨#[44]⟩, ⟨#[61]⟩, ⟨#[38]⟩, ⟨#[124]⟩, ⟨#[94]⟩, ⟨#[126]⟩, ⟨#[43]⟩, ⟨#[45]⟩, ⟨#[42]⟩, ⟨#[63]⟩, ⟨#[46]⟩, ⟨#[39]⟩]
def signsA : Array Value := (signsB.map Value.string).toArray
/-- What the variables hold: the signs; the two errors of strconv. -/
def Tab (w : World) : Prop :=
  (∀ j x, signsB[j]? = some x → w.cell? ⟨0, j, none⟩ = some (.string x)) ∧
  (∃ ev, w.cell? ⟨2, 0, none⟩ = some ev ∧ (ev = .nilIface ∨ ∃ te pe, ev = .iface te pe)) ∧
  (∃ ev, w.cell? ⟨3, 0, none⟩ = some ev ∧ (ev = .nilIface ∨ ∃ te pe, ev = .iface te pe))
theorem tab_below {w w1 : World} (h : Tab w) (hb : Below w.heap.size w w1) : Tab w1 := by
  obtain ⟨h1, ⟨e1, h2, h3⟩, ⟨e2, h4, h5⟩⟩ := h
  exact ⟨fun j x hx => pw_cell_below hb (h1 j x hx), ⟨e1, pw_cell_below hb h2, h3⟩, ⟨e2, pw_cell_below hb h4, h5⟩⟩
theorem tab_drawn {w w1 : World} (h : Tab w) (hd : Drawn0 w w1) : Tab w1 := tab_below h hd.below

theorem cells_add (g j : Nat) : (⟨g, 0, none⟩ : Addr).add j = ⟨g, j, none⟩ := add_plain g j
/-- an array read out of a variable, its cells being known -/
theorem loadVar_cells {P : Program} (w : World) (g : Nat) (ty : TypeId) (cs : Array Value) (d : TypeDesc) (hg : ∀ (j : Nat) v, cs.toList[j]? = some v → w.cell? ⟨g, j, none⟩ = some v)
    (hu : P.underlying ty = some d) (hd : (match d with | .struct _ | .array _ _ => true | _ => false) = true) (hi : (P.info? ty).map (·.size) = some cs.size) :
    (loadVar ty ⟨g, 0, none⟩).run P w = .ok (.agg cs) w := by
  have hl : (loadCells ⟨g, 0, none⟩ cs.toList.length).run P w = .ok cs.toList.toArray w :=
    run_loadCells_list (P := P) w ⟨g, 0, none⟩ cs.toList (fun j v hv => by rw [cells_add]; exact hg j v hv)
  cases hq : P.info? ty with
  | none => simp [hq] at hi
  | some i =>
    have hs : i.size = cs.size := by simpa [hq] using hi
    have hagg : (isAgg ty).run P w = .ok true w := by
      unfold isAgg
      rw [Sem.run_bind, run_underlying hu w]
      cases d <;> simp_all
    simp only [Array.length_toList, Array.toArray_toList] at hl
    simp [loadVar, Sem.run_bind, hagg, sizeOf, typeInfo, hq, hs, hl]
theorem wpList_load_cells {P : Program} {ops : Array Oper} {rest : List Oper} {o : Oper} {a : Act} {w : World} {Q : Exit → Act → World → Prop} (hgd : o.guard = none) (ty : TypeId) (x : Operand) (ho : o.op = .load ty x)
    (g : Nat) (hx : a.eval x = .pointer (some ⟨g, 0, none⟩)) (cs : Array Value) (d : TypeDesc) (hg : ∀ (j : Nat) v, cs.toList[j]? = some v → w.cell? ⟨g, j, none⟩ = some v)
    (hu : P.underlying ty = some d) (hd : (match d with | .struct _ | .array _ _ => true | _ => false) = true) (hi : (P.info? ty).map (·.size) = some cs.size)
    (h : wpList P ops Q rest (a.put o.dst (.agg cs)) w) : wpList P ops Q (o :: rest) a w :=
  wpList_plain hgd fun K hK => by
    unfold Oper.wp execOp
    simp only [ho, hx, Instr.loadAt, Instr.sureAddr, Sem.run_bind, Sem.run_pure, Result.andThen_ok, loadVar_cells w g ty cs d hg hu hd hi]
    exact hK _ _ h
theorem signsA_cells {w : World} (h : Tab w) : ∀ (j : Nat) v, signsA.toList[j]? = some v → w.cell? ⟨0, j, none⟩ = some v := by
  intro j v hv
  simp only [signsA, List.getElem?_map] at hv
  cases hx : signsB[j]? with
  | none => rw [hx] at hv; simp at hv
  | some x => rw [hx] at hv; simp at hv; subst hv; exact h.1 j x hx
end Go.Proofs.YthegiggpkphieaaDoor.Q
