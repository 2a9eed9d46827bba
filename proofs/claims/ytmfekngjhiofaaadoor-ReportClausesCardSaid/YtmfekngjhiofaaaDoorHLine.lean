/-
  HAND: (*report.page).line.
-/
import Derived.Test.YtmfekngjhiofaaaDoorQx0
import Derived.Test.YtmfekngjhiofaaaDoorHBuilder
set_option linter.unusedVariables false
set_option linter.unusedSimpArgs false
namespace Go.Proofs.YtmfekngjhiofaaaDoor.Q
open Go.RowKit Go.Proofs.YtmfekngjhiofaaaDoorW.PrintWords Go.Proofs.YtmfekngjhiofaaaDoorW.PrintLast Go.Proofs.YtmfekngjhiofaaaDoorW.PrintMore

set_option maxHeartbeats 1000000 in
set_option maxRecDepth 100000 in
theorem line_calls (B b : Nat) (bs : List Value) (s : ByteArray) (w : World) (h : Lib.IsBuilder 80 5 B b bs w) (hlen : bs.length + (s ++ (⟨#[10]⟩ : ByteArray)).size ≤ 140737488355328) (hBw : B ≤ w.heap.size) :
    Calls Tryd.prog 36 #[.pointer (some ⟨b, 0, none⟩), .string s] w fun e w' => e = .returned (.tuple #[]) ∧ (Lib.BuilderAt 80 5 B b (.pointer (some ⟨b, 0, none⟩)) (bs ++ Lib.strCells (s ++ (⟨#[10]⟩ : ByteArray))) w' ∧ Below B w w' ∧ Lib.OthersKept 5 (some b) w w') := by
  have hs : (s ++ (⟨#[10]⟩ : ByteArray)).size = s.size + 1 := by rw [ByteArray.size_append]; rfl
  have z : (9223372036854775807 < s.size + 1) = False := eq_false (by omega)
  have HL := Aside0.mk hlen
  clear hs hlen
  go_enter Tryd.func36, Tryd.ntmps36
  go_wp2_with (go_at_call 38; refine (WriteString 80 liesP (by decide) B b bs _ _ h HL.out hBw).mono ?_)
  rintro e w' ⟨rfl, h1, h2, h3⟩
  go_wp2
  go_end0
  exact ⟨rfl, h1, h2, h3⟩
end Go.Proofs.YtmfekngjhiofaaaDoor.Q
