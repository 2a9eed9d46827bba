/-
  HAND: report.Verdict$1, the deferred closure: what the page holds is stored into the named result.
-/
import Derived.Test.YtmfekngjhiofaaaGreatDoorQx0
import Derived.Test.YtmfekngjhiofaaaGreatDoorHBuilder
import Derived.Test.YtmfekngjhiofaaaGreatDoorHFaults
import Derived.Defers
import Derived.OneCell
set_option linter.unusedVariables false
set_option linter.unusedSimpArgs false
namespace Go.Proofs.YtmfekngjhiofaaaGreatDoor.Q
open Go.RowKit Go.Proofs.YtmfekngjhiofaaaGreatDoorW.PrintWords Go.Proofs.YtmfekngjhiofaaaGreatDoorW.PrintLast Go.Proofs.YtmfekngjhiofaaaGreatDoorW.PrintMore

set_option maxHeartbeats 1000000 in
set_option maxRecDepth 100000 in
theorem told_d (B0 B b g s : Nat) (l : List UInt8) (old : Value) (u : FrameMode) (w : World) (h : Lib.IsBuilder 108 5 B b (Lib.byteCells l) w) (hl : l ≠ []) (hg : w.cell? ⟨g, 0, none⟩ = some (.pointer (some ⟨b, 0, none⟩))) (hs : w.heap[s]? = some (.cells #[old] 9 (0, 0))) (hB : s < B) (hB0 : B0 ≤ s) :
    CallsD Tryz.prog 55 #[.pointer (some ⟨g, 0, none⟩), .pointer (some ⟨s, 0, none⟩)] u w fun e u' w' => u' = u ∧ (e = .returned (.tuple #[]) ∧ (w'.cell? ⟨s, 0, none⟩ = some (.string ⟨l.toArray⟩) ∧ Below B0 w w')) := by
  go_enter_d Tryz.func55, Tryz.ntmps55
  go_wp2_with (go_at_call 42; refine (BString 108 B b l _ h hl).mono ?_; rintro e w' ⟨rfl, h1⟩; have hs1 := (h1.block s hB).trans hs; have c1 := Lib.cell_of_heap hs1 0; have f1 := Lib.frozen_of_heap hs1 0)
  go_end0
  refine ⟨rfl, ?_, (h1.mono (by omega)).setCell (p := ⟨s, 0, none⟩) hB0 _⟩
  exact (Lib.cell_of_heap (one_setCell (u := .string ⟨l.toArray⟩) hs1) 0).trans rfl
end Go.Proofs.YtmfekngjhiofaaaGreatDoor.Q
