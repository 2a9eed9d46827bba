/-
  What the package-level variables that report and lift read hold, and that it stays so; strconv.Itoa in the printer's form.
-/
import Derived.Test.YtmfekngjhiofaaaGreatDoorShelf
import Derived.Test.YtmfekngjhiofaaaGreatDoorRows
import Derived.Test.YtmfekngjhiofaaaGreatDoorWords
import Derived.Lib.AppendIntMem
import Derived.Maps.Own
set_option linter.unusedVariables false
set_option linter.unusedSimpArgs false
namespace Go.Proofs.YtmfekngjhiofaaaGreatDoor.Q
open Go.RowKit Go.Proofs.YtmfekngjhiofaaaGreatDoorW.PrintWords

/-- what strconv's errors' variables hold -/
def ErrTab (w : World) : Prop :=
  (∃ ev, w.cell? ⟨2, 0, none⟩ = some ev ∧ (ev = .nilIface ∨ ∃ te pe, ev = .iface te pe)) ∧
  (∃ ev, w.cell? ⟨3, 0, none⟩ = some ev ∧ (ev = .nilIface ∨ ∃ te pe, ev = .iface te pe))
theorem errtab_below {w w1 : World} (h : ErrTab w) (hb : Below w.heap.size w w1) : ErrTab w1 := by
  obtain ⟨⟨e1, h2, h3⟩, ⟨e2, h4, h5⟩⟩ := h
  exact ⟨⟨e1, pw_cell_below hb h2, h3⟩, ⟨e2, pw_cell_below hb h4, h5⟩⟩
/-- the errors' words -/
def wordsD : DataW Unit := Rows.laid_proofmark_report_words
def Tab (w : World) : Prop :=
  Lib.TabBelow Tryz.prog w.heap.size w "internal/strconv.uint64pow10" .u64 Lib.pow10Tab ∧
  (∃ bm n, w.cell? ⟨0, 0, none⟩ = some (.map (some bm)) ∧ w.ownsMap (H := Unit) Tryz.prog 99 (plainElem Tryz.prog 9) bm n wordsD) ∧
  (∃ m, w.cell? ⟨4, 0, none⟩ = some (.int .i64 m)) ∧ ErrTab w
theorem tab_below {w w1 : World} (h : Tab w) (hb : Below w.heap.size w w1) : Tab w1 := by
  obtain ⟨h1, ⟨bm, n, h2, h3⟩, ⟨m, h4⟩, he⟩ := h
  refine ⟨fun w' hb' => h1 w' (below_step hb hb'), ⟨bm, n, pw_cell_below hb h2, ?_⟩, ⟨m, pw_cell_below hb h4⟩, errtab_below he hb⟩
  have hlt := h3.lt
  obtain ⟨es, clock, g1, g2, g3, g4⟩ := h3
  exact ⟨es, clock, (hb.block bm hlt).trans g1, g2, g3, g4⟩
theorem tab_max {w : World} (h : Tab w) : ∃ m, w.cell? ⟨4, 0, none⟩ = some (.int .i64 m) := h.2.2.1
theorem tab_err {w : World} (h : Tab w) : ErrTab w := h.2.2.2
theorem tab_drawn {w w1 : World} (h : Tab w) (hd : Drawn0 w w1) : Tab w1 := tab_below h hd.below
/-- a number's numeral -/
def numB (n : Int) : ByteArray := ⟨(Lib.itoa n).toArray⟩
def strconv_Itoa.f (n : Int) : Option ByteArray := if -9223372036854775808 ≤ n ∧ n ≤ 9223372036854775807 then some (numB n) else none
theorem strconv_Itoa.calls (n : Int) (r : ByteArray) (w : World) (hG : Tab w) (h : strconv_Itoa.f n = some r) :
    Calls Tryz.prog 33 #[.int .i64 n] w fun e w' => e = .returned (.string r) ∧ Below w.heap.size w w' := by
  unfold strconv_Itoa.f at h
  split at h
  · rename_i hb
    obtain rfl := Option.some.inj h
    refine (Tryz.strconv_Itoa n hb.1 hb.2 w hG.1.here).mono ?_
    rintro e w' ⟨rfl, k, os, rfl⟩
    exact ⟨rfl, Lib.below_grow _ w (Nat.le_refl _) k os⟩
  · cases h
/-- a struct of three fields, its fields stored, the middle one once more -/
theorem set_heap {w : World} {g i : Nat} {cs : Array Value} {T : TypeId} {fr : Nat × Nat} {v : Value} (h : w.heap[g]? = some (.cells cs T fr)) : (w.setCell ⟨g, i, none⟩ v).heap[g]? = some (.cells (cs.setIfInBounds i v) T fr) := by
  show (w.heap.modify g _)[g]? = _
  rw [Array.getElem?_modify, if_pos rfl, h]
  rfl
theorem set4 {w : World} {g : Nat} {a0 a1 a2 b0 b1 b2 b3 : Value} {T : TypeId} {fr : Nat × Nat} (h : w.heap[g]? = some (.cells #[a0, a1, a2] T fr)) :
    ((((w.setCell ⟨g, 0, none⟩ b0).setCell ⟨g, 1, none⟩ b1).setCell ⟨g, 2, none⟩ b2).setCell ⟨g, 1, none⟩ b3).cell? ⟨g, 0, none⟩ = some b0 ∧
    ((((w.setCell ⟨g, 0, none⟩ b0).setCell ⟨g, 1, none⟩ b1).setCell ⟨g, 2, none⟩ b2).setCell ⟨g, 1, none⟩ b3).cell? ⟨g, 1, none⟩ = some b3 ∧
    ((((w.setCell ⟨g, 0, none⟩ b0).setCell ⟨g, 1, none⟩ b1).setCell ⟨g, 2, none⟩ b2).setCell ⟨g, 1, none⟩ b3).cell? ⟨g, 2, none⟩ = some b2 := by
  have h4 := set_heap (i := 1) (v := b3) (set_heap (i := 2) (v := b2) (set_heap (i := 1) (v := b1) (set_heap (i := 0) (v := b0) h)))
  exact ⟨(Lib.cell_of_heap h4 0).trans rfl, (Lib.cell_of_heap h4 1).trans rfl, (Lib.cell_of_heap h4 2).trans rfl⟩
end Go.Proofs.YtmfekngjhiofaaaGreatDoor.Q
