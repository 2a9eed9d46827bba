/-
  ReportTells: the plain law.
-/
import Derived.Test.YtmfekngjhiofaaaDoorLReportTells
import Derived.Test.YtmfekngjhiofaaaDoorPRSame
set_option linter.unusedVariables false
set_option linter.unusedSimpArgs false
namespace Go.Proofs.YtmfekngjhiofaaaDoor.Q
open Go.RowKit Go.Proofs.YtmfekngjhiofaaaDoorW.PrintWords Go.Proofs.YtmfekngjhiofaaaDoorW.PrintLast Go.Proofs.YtmfekngjhiofaaaDoorW.PrintMore
theorem tells_l0 (n0 : List S96) (n1 : List S111) (n2 : List S94) (n3 : List S73) (n4 : List S111) (vk vK : Int) (tr inv : List (List Int)) (fl : List S40) (hn : n3.length ≤ 1000)
    (hV : ∀ k a1, 4000 < k → ∃ r, report_Verdict.f k n0 n1 n2 n3 n4 a1 vk vK tr inv = some r ∧ proofmarkref30_Verdict.f k n0 n1 n2 n3 n4 a1 vk vK tr inv = some r) (hF : ∃ r, report_Faults.f fl = some r ∧ proofmarkref30_Faults.f fl = some r) (d : Nat) :
    ∀ (k i : Nat), n3.length + 2 - i = d → i ≤ n3.length + 2 → 4001 + d < k → proofmarklaw30_ReportTells.l0 k true fl ((i : Int) - 1) n0 n1 n2 n3 n4 vk vK tr inv = some true := by
  induction d with
  | zero =>
    intro k i h1 h2 h3
    obtain ⟨k, rfl⟩ : ∃ q, k = q + 1 := ⟨k - 1, by omega⟩
    obtain ⟨r, e1, e2⟩ := hF
    simp only [proofmarklaw30_ReportTells.l0]
    rw [if_neg (by omega), e1, e2]
    simp
  | succ d ih =>
    intro k i h1 h2 h3
    obtain ⟨k, rfl⟩ : ∃ q, k = q + 1 := ⟨k - 1, by omega⟩
    obtain ⟨r, e1, e2⟩ := hV k ((i : Int) - 1) (by omega)
    simp only [proofmarklaw30_ReportTells.l0]
    rw [if_pos (by omega), e1, e2]
    simp only [Option.bind_some, if_true]
    rw [show wrap64 ((i : Int) - 1 + 1) = ((i + 1 : Nat) : Int) - 1 by unfold wrap64; omega]
    exact ih k (i + 1) (by omega) (by omega) (by omega)
theorem ReportTells (k : Nat) (hk : 5000 ≤ k) (l0_0 : List S96) (l0_1 : List S111) (l0_2 : List S94) (l0_3 : List S73) (l0_4 : List S111) (a1_0 a1_1 : Int) (l1_2 l1_3 : List (List Int)) (l2 : List S40)
    (hw : ∀ p ∈ l0_3, (Lit.int .i64 p.f0).wf = true) (hK : (Lit.int .i64 a1_1).wf = true) (hI : ∀ x ∈ l1_3, ∀ y ∈ x, (Lit.int .i64 y).wf = true) (hF : l2.all wfF = true) : proofmarklaw30_ReportTells.f k l0_0 l0_1 l0_2 l0_3 l0_4 a1_0 a1_1 l1_2 l1_3 l2 = some true := by
  unfold proofmarklaw30_ReportTells.f
  rw [headF_k k (by omega), few30_f l0_0 l0_1 l0_2 l0_3 l0_4 k (by omega), fit_f a1_0 a1_1 l1_2 l1_3 k (by omega)]
  simp only [Option.bind_some]
  rw [mn50, if_pos (by omega), if_pos (by omega), Int.toNat_natCast]
  have a0 := all_take l2 (min l2.length 50) hF
  have b0 : (l2.take (min l2.length 50)).length ≤ 50 := by simp; omega
  have hP := few_props l0_3 hw
  obtain ⟨i1, i2⟩ := rowsP_len l1_3
  obtain ⟨j1, j2⟩ := rowsP_len l1_2
  have i3 := rowsP_wf l1_3 hI
  exact tells_l0 _ _ _ _ _ _ _ _ _ _ (by have := hP.1; omega) (fun q a1 hq => verdict_same q _ _ _ _ _ a1 _ _ _ _ (few_small l0_1 l0_2) hq hP.2 hK (by omega) (by omega) (fun z hz => by have := i2 z hz; omega) i3) (faults_both _ (by omega) a0) _ k 0 rfl (by omega) (by have := hP.1; omega)
end Go.Proofs.YtmfekngjhiofaaaDoor.Q
