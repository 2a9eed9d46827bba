/-
  Plain: at a small net the document's Verdict and Faults tell the very text that report's tell.
-/
import Derived.Test.YtmfekngjhiofaaaDoorPVerdict
import Derived.Test.YtmfekngjhiofaaaDoorHRVerdict
import Derived.Test.YtmfekngjhiofaaaDoorHRFaults
import Derived.Test.YtmfekngjhiofaaaDoorPHead
set_option linter.unusedVariables false
set_option linter.unusedSimpArgs false
namespace Go.Proofs.YtmfekngjhiofaaaDoor.Q
open Go.RowKit Go.Proofs.YtmfekngjhiofaaaDoorW.PrintWords Go.Proofs.YtmfekngjhiofaaaDoorW.PrintLast Go.Proofs.YtmfekngjhiofaaaDoorW.PrintMore
theorem headF_at (d : Nat) : proofmarklaw30_head.f (12 + d) = some true := by
  induction d with
  | zero => exact head_true
  | succ d ih => exact proofmarklaw30_head.mono _ _ ih
theorem headF_k (k : Nat) (hk : 12 ≤ k) : proofmarklaw30_head.f k = some true := by
  have := headF_at (k - 12)
  rwa [show 12 + (k - 12) = k by omega] at this
theorem rowsP_len (l : List (List Int)) : (rowsP l).length ≤ 30 ∧ ∀ x ∈ rowsP l, x.length ≤ 24 := by
  unfold rowsP
  refine ⟨by simp; omega, fun x hx => ?_⟩
  obtain ⟨y, _, rfl⟩ := List.mem_map.1 hx
  simp; omega
theorem rowsP_wf (l : List (List Int)) (h : ∀ x ∈ l, ∀ y ∈ x, (Lit.int .i64 y).wf = true) : ∀ x ∈ rowsP l, ∀ y ∈ x, (Lit.int .i64 y).wf = true := by
  unfold rowsP
  intro x hx y hy
  obtain ⟨z, hz, rfl⟩ := List.mem_map.1 hx
  exact h z (List.mem_of_mem_take hz) y (List.mem_of_mem_take hy)
theorem few_small (l1 : List S111) (l2 : List S94) : Small ((l1.take 20).map cutP) ((l2.take 20).map cutC) := ⟨by simp; omega, by simp; omega, fun x hx => by
    obtain ⟨y, _, rfl⟩ := List.mem_map.1 hx
    have := cutS_size y.f0
    show (cutS y.f0).size ≤ 100; omega, fun x hx => by
    obtain ⟨y, _, rfl⟩ := List.mem_map.1 hx
    have := cutS_size y.f0
    show (cutS y.f0).size ≤ 100; omega⟩
theorem few_props (l3 : List S73) (hw : ∀ p ∈ l3, (Lit.int .i64 p.f0).wf = true) : ((l3.take 40).map cutR).length ≤ 40 ∧ ∀ x ∈ (l3.take 40).map cutR, x.f1.size ≤ 10000 ∧ (Lit.int .i64 x.f0).wf = true := by
  refine ⟨by simp; omega, fun x hx => ?_⟩
  obtain ⟨y, hy, rfl⟩ := List.mem_map.1 hx
  have := cutS_size y.f1
  exact ⟨by show (cutS y.f1).size ≤ 10000; omega, hw y (List.mem_of_mem_take hy)⟩
theorem verdict_same (k : Nat) (l0_0 : List S96) (l0_1 : List S111) (l0_2 : List S94) (l0_3 : List S73) (l0_4 : List S111) (a1 vk vK : Int) (tr inv : List (List Int)) (hs : Small l0_1 l0_2) (hk : 4000 < k)
    (hp : ∀ x ∈ l0_3, x.f1.size ≤ 10000 ∧ (Lit.int .i64 x.f0).wf = true) (hK : (Lit.int .i64 vK).wf = true) (ht : tr.length ≤ 100) (hi : inv.length ≤ 100) (hr : ∀ x ∈ inv, x.length ≤ 90) (hw : ∀ x ∈ inv, ∀ y ∈ x, (Lit.int .i64 y).wf = true) :
    ∃ r, report_Verdict.f k l0_0 l0_1 l0_2 l0_3 l0_4 a1 vk vK tr inv = some r ∧ proofmarkref30_Verdict.f k l0_0 l0_1 l0_2 l0_3 l0_4 a1 vk vK tr inv = some r := by
  have hg : (namesFit l0_1 && cellsFit l0_2 && inv.all (fun l => l.all (fun x => (Lit.int .i64 x).wf))) = true := by
    have h1 : namesFit l0_1 = true := by
      unfold namesFit
      rw [decide_eq_true (show l0_1.length ≤ 1000 by have := hs.pl; omega), List.all_eq_true.2 (fun (z : S111) hz => decide_eq_true (show z.f0.size ≤ 1000 by have := hs.pn z hz; omega))]
      rfl
    have h2 : cellsFit l0_2 = true := by
      unfold cellsFit
      rw [decide_eq_true (show l0_2.length ≤ 1000 by have := hs.cl; omega), List.all_eq_true.2 (fun (z : S94) hz => decide_eq_true (show z.f0.size ≤ 1000 by have := hs.cn z hz; omega))]
      rfl
    have h3 : inv.all (fun l => l.all (fun x => (Lit.int .i64 x).wf)) = true := List.all_eq_true.2 fun x hx => List.all_eq_true.2 fun y hy => hw x hx y hy
    rw [h1, h2, h3]; rfl
  have e : ∃ r, report_Verdict.f k l0_0 l0_1 l0_2 l0_3 l0_4 a1 vk vK tr inv = some r := by
    by_cases hq : a1 < 0 ∨ (l0_3.length : Int) ≤ a1
    · exact ⟨_, verdict_out k l0_0 l0_1 l0_2 l0_3 l0_4 a1 vk vK tr inv hq⟩
    · have hx : rd_T73 l0_3 a1 ∈ l0_3 := by
        have : a1.toNat < l0_3.length := by omega
        unfold rd_T73
        rw [List.getD_eq_getElem?_getD, List.getElem?_eq_getElem this]
        exact List.getElem_mem this
      obtain ⟨x1, x3⟩ := hp _ hx
      obtain ⟨t, ht⟩ := verdict_in k l0_0 l0_1 l0_2 l0_3 l0_4 a1 vk vK tr inv hs hk hq x1 x3 hK ht hi hr
      exact ⟨_, ht⟩
  obtain ⟨r, hr⟩ := e
  exact ⟨r, hr, by unfold proofmarkref30_Verdict.f; rw [if_pos hg]; exact hr⟩
theorem faults_both (l : List S40) (h : l.length ≤ 100) (hw : l.all wfF = true) : ∃ r, report_Faults.f l = some r ∧ proofmarkref30_Faults.f l = some r :=
  ⟨_, by unfold report_Faults.f; rw [if_pos ⟨by omega, hw⟩], by unfold proofmarkref30_Faults.f report_Faults.f; rw [if_pos ⟨by omega, hw⟩]⟩
theorem mn50 (n : Nat) : mn (n : Int) 50 = ((min n 50 : Nat) : Int) := by unfold mn; split <;> omega
theorem all_take (l : List S40) (n : Nat) (hw : l.all wfF = true) : (l.take n).all wfF = true := List.all_eq_true.2 fun x hx => List.all_eq_true.1 hw x (List.mem_of_mem_take hx)
end Go.Proofs.YtmfekngjhiofaaaDoor.Q
