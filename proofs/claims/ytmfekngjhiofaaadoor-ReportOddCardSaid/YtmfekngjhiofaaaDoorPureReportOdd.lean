/-
  ReportOdd: the plain law.
-/
import Derived.Test.YtmfekngjhiofaaaDoorLReportOdd
import Derived.Test.YtmfekngjhiofaaaDoorPRSame
set_option linter.unusedVariables false
set_option linter.unusedSimpArgs false
namespace Go.Proofs.YtmfekngjhiofaaaDoor.Q
open Go.RowKit Go.Proofs.YtmfekngjhiofaaaDoorW.PrintWords Go.Proofs.YtmfekngjhiofaaaDoorW.PrintLast Go.Proofs.YtmfekngjhiofaaaDoorW.PrintMore
theorem ReportOdd (k : Nat) (hk : 5000 ≤ k) (l0_0 : List S96) (l0_1 : List S111) (l0_2 : List S94) (l0_3 : List S73) (l0_4 : List S111) (a1_0 a1_1 : Int) (l1_2 l1_3 : List (List Int)) (a2 : Int)
    (hw : ∀ p ∈ l0_3, (Lit.int .i64 p.f0).wf = true) (hk0 : (Lit.int .i64 a1_0).wf = true) (hK : (Lit.int .i64 a1_1).wf = true) (hI : ∀ x ∈ l1_3, ∀ y ∈ x, (Lit.int .i64 y).wf = true) (h2 : (Lit.int .i64 a2).wf = true) : proofmarklaw30_ReportOdd.f k l0_0 l0_1 l0_2 l0_3 l0_4 a1_0 a1_1 l1_2 l1_3 a2 = some true := by
  unfold proofmarklaw30_ReportOdd.f
  rw [headF_k k (by omega), few30_f l0_0 l0_1 l0_2 l0_3 l0_4 k (by omega), fit_f a1_0 a1_1 l1_2 l1_3 k (by omega)]
  simp only [Option.bind_some, if_true]
  have hP := few_props l0_3 hw
  obtain ⟨i1, i2⟩ := rowsP_len l1_3
  obtain ⟨j1, j2⟩ := rowsP_len l1_2
  have i3 := rowsP_wf l1_3 hI
  obtain ⟨r, e1, e2⟩ := verdict_same k (l0_0.take 40) _ _ _ [] a2 a1_0 a1_1 (rowsP l1_2) (rowsP l1_3) (few_small l0_1 l0_2) (by omega) hP.2 hK (by omega) (by omega) (fun z hz => by have := i2 z hz; omega) i3
  obtain ⟨s, f1, f2⟩ := faults_both [⟨a2, a2, a1_1, a1_0⟩] (by simp) (by simp [wfF, h2, hK, hk0])
  rw [e1, e2, f1, f2]
  simp
end Go.Proofs.YtmfekngjhiofaaaDoor.Q
