/-
  Plain: ReportUnlike's printed function answers true.
-/
import Derived.Test.YtmfekngjhiofaaaDoorLReportUnlike
import Derived.Test.YtmfekngjhiofaaaDoorPHead
import Derived.Test.YtmfekngjhiofaaaDoorPFault
set_option linter.unusedVariables false
set_option linter.unusedSimpArgs false
namespace Go.Proofs.YtmfekngjhiofaaaDoor.Q
open Go.RowKit Go.Proofs.YtmfekngjhiofaaaDoorW.PrintWords Go.Proofs.YtmfekngjhiofaaaDoorW.PrintLast Go.Proofs.YtmfekngjhiofaaaDoorW.PrintMore
theorem faults_one (x : S40) (h : wfF x = true) : report_Faults.f [x] = some (faultB x) := by
  unfold report_Faults.f
  rw [if_pos ⟨by simp, by simpa using h⟩]
  congr 1
  apply ByteArray.ext
  simp [faultsB]
theorem ReportUnlike (x y : S40) (hx : wfF x = true) (hy : wfF y = true) : proofmarklaw30_ReportUnlike.f 12 x.f0 x.f1 x.f2 x.f3 y.f0 y.f1 y.f2 y.f3 = some true := by
  unfold proofmarklaw30_ReportUnlike.f
  rw [head_true]
  simp only [Option.bind_some]
  rw [faults_one x hx, faults_one y hy]
  simp only [Option.bind_some, if_true]
  congr 1
  by_cases e : x = y
  · subst e; simp
  · have h1 : ((faultB x).toList == (faultB y).toList) = false := by
      rw [beq_eq_false_iff_ne]
      intro h
      exact e (faultB_inj (by rw [← ByteArray.toList_eq, ← ByteArray.toList_eq]; exact h))
    have h2 : (x.f0 == y.f0 && (x.f1 == y.f1 && (x.f2 == y.f2 && x.f3 == y.f3))) = false := by
      rw [Bool.eq_false_iff]
      intro h
      simp only [Bool.and_eq_true, beq_iff_eq] at h
      apply e
      cases x; cases y
      simp only at h
      rw [h.1, h.2.1, h.2.2.1, h.2.2.2]
    rw [h1, h2]; rfl
end Go.Proofs.YtmfekngjhiofaaaDoor.Q
