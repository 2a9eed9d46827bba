/-
  A fault, and a row of faults, among the arguments, opened.
-/
import Derived.Test.YtmfekngjhiofaaaDoorHOpen
import Derived.Test.YtmfekngjhiofaaaDoorHFaults
set_option linter.unusedVariables false
set_option linter.unusedSimpArgs false
namespace Go.Proofs.YtmfekngjhiofaaaDoor.Q
open Go.ChangeShapes Go.WideShapes Go.RowKit Go.Proofs.YtmfekngjhiofaaaDoorW.PrintWords

theorem open_fault : Opens Tryd.prog 40 k40 (fun x => wfF x = true) (fun _ => 0) := by
  have h := opens_iso (fun x : S40 => (x.f0, x.f1, x.f2, x.f3)) (fun p => ⟨p.1, p.2.1, p.2.2.1, p.2.2.2⟩) (fun _ => rfl)
    (opens_struct (P := Tryd.prog) (t := 40) (K := Kd.pair (Kd.int .i64) (Kd.pair (Kd.int .i64) (Kd.pair (Kd.int .i64) (Kd.int .i64)))) Tryd.underlying40 (by kernel_rfl)
      (opensF_cons (K := Kd.int .i64) rfl (by kernel_rfl) (opens_int Tryd.underlying38) (opensF_cons (K := Kd.int .i64) rfl (by kernel_rfl) (opens_int Tryd.underlying3)
        (opensF_cons (K := Kd.int .i64) rfl (by kernel_rfl) (opens_int Tryd.underlying3) (opensF_one (K := Kd.int .i64) rfl (by kernel_rfl) (opens_int Tryd.underlying3))))))
  intro H enc w base sp held fuel cs x hx
  obtain ⟨a, h1, h2, h3⟩ := h H enc w base sp held fuel cs x hx
  exact ⟨a, h1, by
    have q0 : (Lit.int .i64 a.f0).wf = true := h2.1
    have q1 : (Lit.int .i64 a.f1).wf = true := h2.2.1
    have q2 : (Lit.int .i64 a.f2).wf = true := h2.2.2.1
    have q3 : (Lit.int .i64 a.f3).wf = true := h2.2.2.2
    show wfF a = true
    unfold wfF
    rw [q0, q1, q2, q3]
    rfl, Nat.zero_le _⟩
theorem open_faults : Opens Tryd.prog 31 (Kd.slice 40 k40) (fun l => l.all wfF = true ∧ l.length ≤ maxLen) (fun l => 0) := by
  have h := opens_slice (P := Tryd.prog) (t := 31) (q := 40) Tryd.underlying31 (by kernel_rfl) open_fault
  intro H enc w base sp held fuel cs x hx
  obtain ⟨a, h1, h2, h3⟩ := h H enc w base sp held fuel cs x hx
  exact ⟨a, h1, ⟨List.all_eq_true.2 h2.1, h2.2⟩, Nat.zero_le _⟩
end Go.Proofs.YtmfekngjhiofaaaDoor.Q
