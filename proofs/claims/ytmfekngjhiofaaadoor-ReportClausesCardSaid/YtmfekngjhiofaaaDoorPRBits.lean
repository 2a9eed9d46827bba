/-
  Plain: the document's Bits tells what report.bits tells.
-/
import Derived.Test.YtmfekngjhiofaaaDoorQx8
import Derived.Test.YtmfekngjhiofaaaDoorQx14
set_option linter.unusedVariables false
set_option linter.unusedSimpArgs false
namespace Go.Proofs.YtmfekngjhiofaaaDoor.Q
open Go.RowKit Go.Proofs.YtmfekngjhiofaaaDoorW.PrintWords Go.Proofs.YtmfekngjhiofaaaDoorW.PrintLast Go.Proofs.YtmfekngjhiofaaaDoorW.PrintMore
section
variable (nodes : List S96) (pins : List S111) (cells : List S94) (props : List S73) (names : List S111) (c0 : Int)
theorem bits_skip (K : Nat) (i x5 : Int) (lats : List S98) : proofmarkref30_Bits.j1 (K + 3) i x5 0 false nodes pins cells props names c0 lats = proofmarkref30_Bits.l0 K (wrap64 (i + 1)) nodes pins cells props names c0 lats := by
  rw [show K + 3 = K + 2 + 1 from rfl]
  simp only [proofmarkref30_Bits.j1, proofmarkref30_Bits.j2, proofmarkref30_Bits.l1]
  rw [if_neg (by decide), if_neg (by decide)]
theorem bits_sim : ∀ k : Nat, (∀ i lats c, report_bits.l0 k cells (cells.length : Int) i nodes pins cells props names c0 lats = some c → ∃ K, K ≤ 4 * k ∧ proofmarkref30_Bits.l0 K i nodes pins cells props names c0 lats = some c) ∧
    (∀ i W b lats c, 0 ≤ b → W ≤ 16 → report_bits.l1 k i cells (cells.length : Int) i (mx W 0) b nodes pins cells props names c0 lats = some c → ∃ K, K ≤ 4 * k ∧ proofmarkref30_Bits.l1 K i W b nodes pins cells props names c0 lats = some c) := by
  intro k
  induction k using Nat.strongRecOn with
  | _ k ih =>
    constructor
    · intro i lats c h
      cases k with
      | zero => simp [report_bits.l0] at h
      | succ k =>
        simp only [report_bits.l0] at h
        generalize hx : rd_T94 cells i = x at h
        by_cases q0 : i < (cells.length : Int)
        · rw [if_pos q0] at h
          by_cases q1 : 0 ≤ i
          · rw [if_pos q1, if_pos q0] at h
            have skip : ∀ {q : Bool}, q = true → report_bits.j1 k i cells (cells.length : Int) i q nodes pins cells props names c0 lats x.f0 x.f1 x.f2 x.f3 = some c → ∃ K, K + 4 ≤ 4 * k ∧ proofmarkref30_Bits.l0 K (wrap64 (i + 1)) nodes pins cells props names c0 lats = some c := by
              intro q hq h
              subst hq
              cases k with
              | zero => simp [report_bits.j1] at h
              | succ k =>
                simp only [report_bits.j1, if_true] at h
                obtain ⟨K, hk1, hk2⟩ := (ih k (by omega)).1 _ _ _ h
                exact ⟨K, by omega, hk2⟩
            by_cases q2 : x.f1 < 0
            · rw [if_pos q2] at h
              obtain ⟨K, hk1, hK⟩ := skip rfl h
              refine ⟨K + 3 + 1, by omega, ?_⟩
              simp only [proofmarkref30_Bits.l0, hx]
              rw [if_pos q0, if_pos q1, if_neg (by omega), bits_skip]
              exact hK
            · rw [if_neg q2] at h
              by_cases q3 : x.f1 ≥ (nodes.length : Int)
              · rw [if_pos q3] at h
                obtain ⟨K, hk1, hK⟩ := skip rfl h
                refine ⟨K + 3 + 1, by omega, ?_⟩
                simp only [proofmarkref30_Bits.l0, hx]
                rw [if_pos q0, if_pos q1, if_pos (by omega), if_neg (by omega), bits_skip]
                exact hK
              · rw [if_neg q3, if_pos (by omega), if_pos (by omega)] at h
                by_cases q4 : (rd_T96 nodes x.f1).f1 > 16
                · obtain ⟨K, hk1, hK⟩ := skip (decide_eq_true q4) h
                  refine ⟨K + 3 + 1, by omega, ?_⟩
                  simp only [proofmarkref30_Bits.l0, hx]
                  rw [if_pos q0, if_pos q1, if_pos (by omega), if_pos (by omega), if_pos (by omega), decide_eq_false (show ¬ (rd_T96 nodes x.f1).f1 ≤ 16 by omega), bits_skip]
                  exact hK
                · rw [decide_eq_false q4] at h
                  cases k with
                  | zero => simp [report_bits.j1] at h
                  | succ k =>
                    simp only [report_bits.j1] at h
                    rw [if_neg (by decide), if_pos (by omega), if_pos (by omega)] at h
                    obtain ⟨K, hk1, hK⟩ := (ih k (by omega)).2 i _ 0 lats c (by omega) (by omega) h
                    refine ⟨K + 1 + 1 + 1, by omega, ?_⟩
                    simp only [proofmarkref30_Bits.l0, hx]
                    rw [if_pos q0, if_pos q1, if_pos (by omega), if_pos (by omega), if_pos (by omega), decide_eq_true (show (rd_T96 nodes x.f1).f1 ≤ 16 by omega)]
                    simp only [proofmarkref30_Bits.j1, proofmarkref30_Bits.j2]
                    rw [if_pos trivial, if_pos (by omega), if_pos (by omega)]
                    exact hK
          · rw [if_neg q1] at h; exact absurd h (by simp)
        · rw [if_neg q0] at h
          exact ⟨1, by omega, by simp only [proofmarkref30_Bits.l0]; rw [if_neg q0]; exact h⟩
    · intro i W b lats c hb hW h
      cases k with
      | zero => simp [report_bits.l1] at h
      | succ k =>
        simp only [report_bits.l1] at h
        have hm : b < mx W 0 ↔ b < W := by unfold mx; split <;> omega
        by_cases q0 : b < W
        · rw [if_pos (hm.2 q0)] at h
          by_cases q1 : lats.length < 3518437208883
          · rw [if_pos q1] at h
            have hw : wrap64 (b + 1) = b + 1 := by unfold wrap64; omega
            obtain ⟨K, hk1, hK⟩ := (ih k (by omega)).2 i W _ _ c (by rw [hw]; omega) hW h
            refine ⟨K + 1, by omega, ?_⟩
            simp only [proofmarkref30_Bits.l1]
            rw [if_pos q0, if_pos q1]
            exact hK
          · rw [if_neg q1] at h; exact absurd h (by simp)
        · rw [if_neg (fun q => q0 (hm.1 q))] at h
          obtain ⟨K, hk1, hK⟩ := (ih k (by omega)).1 _ _ _ h
          refine ⟨K + 1, by omega, ?_⟩
          simp only [proofmarkref30_Bits.l1]
          rw [if_neg q0]
          exact hK
end
theorem mono_le {α : Type} {f : Nat → Option α} (hm : ∀ k, LeO (f k) (f (k + 1))) {r : α} {k : Nat} (hr : f k = some r) : ∀ d, f (k + d) = some r
  | 0 => hr
  | d + 1 => hm (k + d) _ (mono_le hm hr d)
theorem bits_same (nodes : List S96) (pins : List S111) (cells : List S94) (props : List S73) (names : List S111) (k : Nat) (c : Int × (List S201) × (List S202) × (List S98) × (List S204)) (h : report_bits.f k nodes pins cells props names = some c) : ∃ K, K ≤ 4 * k ∧ proofmarkref30_Bits.f K nodes pins cells props names = some c := by
  unfold report_bits.f at h
  unfold proofmarkref30_Bits.f
  exact (bits_sim nodes pins cells props names 0 k).1 0 [] c h
end Go.Proofs.YtmfekngjhiofaaaDoor.Q
