/-
  HAND: (*report.page).line.
-/
import Derived.Test.YtmfekngjhiofaaaGreatDoorQx0
import Derived.Test.YtmfekngjhiofaaaGreatDoorHBuilder
set_option linter.unusedVariables false
set_option linter.unusedSimpArgs false
namespace Go.Proofs.YtmfekngjhiofaaaGreatDoor.Q
open Go.RowKit Go.Proofs.YtmfekngjhiofaaaGreatDoorW.PrintWords Go.Proofs.YtmfekngjhiofaaaGreatDoorW.PrintLast Go.Proofs.YtmfekngjhiofaaaGreatDoorW.PrintMore

set_option maxHeartbeats 1000000 in
set_option maxRecDepth 100000 in
theorem line_calls (B b : Nat) (bs : List Value) (s : ByteArray) (w : World) (h : Lib.IsBuilder 108 5 B b bs w) (hlen : bs.length + (s ++ (⟨#[10]⟩ : ByteArray)).size ≤ 140737488355328) (hBw : B ≤ w.heap.size) :
    Calls Tryz.prog 56 #[.pointer (some ⟨b, 0, none⟩), .string s] w fun e w' => e = .returned (.tuple #[]) ∧ (Lib.BuilderAt 108 5 B b (.pointer (some ⟨b, 0, none⟩)) (bs ++ Lib.strCells (s ++ (⟨#[10]⟩ : ByteArray))) w' ∧ Below B w w' ∧ Lib.OthersKept 5 (some b) w w') := by
  have hs : (s ++ (⟨#[10]⟩ : ByteArray)).size = s.size + 1 := by rw [ByteArray.size_append]; rfl
  have z : (9223372036854775807 < s.size + 1) = False := eq_false (by omega)
  have HL := Aside0.mk hlen
  clear hs hlen
  go_enter Tryz.func56, Tryz.ntmps56
  go_wp2_with (go_at_call 41; refine (WriteString 108 liesP (by decide) B b bs _ _ h HL.out hBw).mono ?_)
  rintro e w' ⟨rfl, h1, h2, h3⟩
  go_wp2
  go_end0
  exact ⟨rfl, h1, h2, h3⟩
end Go.Proofs.YtmfekngjhiofaaaGreatDoor.Q
