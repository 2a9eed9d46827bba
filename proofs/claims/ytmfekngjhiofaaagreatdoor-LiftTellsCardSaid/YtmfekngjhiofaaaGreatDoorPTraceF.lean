/-
  Plain: lift.Trace and lift.Back at a net that layer 27's laws have cut; how long a trace's text is.
-/
import Derived.Test.YtmfekngjhiofaaaGreatDoorPHeadL
import Derived.Test.YtmfekngjhiofaaaGreatDoorPLift
import Derived.Test.YtmfekngjhiofaaaGreatDoorPRows
import Derived.Test.YtmfekngjhiofaaaGreatDoorPBack
set_option linter.unusedVariables false
set_option linter.unusedSimpArgs false
namespace Go.Proofs.YtmfekngjhiofaaaGreatDoor.Q
open Go.RowKit Go.Proofs.YtmfekngjhiofaaaGreatDoorW.PrintWords Go.Proofs.YtmfekngjhiofaaaGreatDoorW.PrintLast Go.Proofs.YtmfekngjhiofaaaGreatDoorW.PrintMore
theorem head_from (k : Nat) (hk : 12 ≤ k) : proofmarklaw27_head.f k = some true := by
  obtain ⟨d, rfl⟩ : ∃ d, k = 12 + d := ⟨k - 12, by omega⟩
  induction d with
  | zero => exact head_true
  | succ d ih => exact proofmarklaw27_head.mono _ _ (ih (by omega))
theorem trace_f (n1 : List S72) (n2 : List S114) (tr : List (List Int)) (hl : tr.length ≤ 10000) : lift_Trace.f [] (pinsC n1) (cellsC n2) [] [] tr = some ⟨(traceB (pinsC n1) (cellsC n2) tr).toArray⟩ := by
  unfold lift_Trace.f
  have hf : traceFit (pinsC n1) tr = true := by
    unfold traceFit
    rw [smallP_C, decide_eq_true (show (pinsC n1).length ≤ 10000 by have := pinsC_len n1; omega), decide_eq_true hl]; rfl
  rw [if_pos ⟨shortC_C n2, hf⟩]
theorem back_f (n1 : List S72) (n2 : List S114) (s : ByteArray) (hs : s.size ≤ 100000000) : lift_Back.f [] (pinsC n1) (cellsC n2) [] [] s = some (backB (pinsC n1) (cellsC n2) s) := by
  unfold lift_Back.f
  have hf : backFit (pinsC n1) (cellsC n2) s = true := by
    unfold backFit
    rw [shortP_C, shortC_C, smallP_C, decide_eq_true hs]; rfl
  rw [if_pos hf]
theorem rowsP_len (l : List (List Int)) : (rowsP l).length ≤ 30 ∧ ∀ x ∈ rowsP l, x.length ≤ 24 := by
  unfold rowsP
  refine ⟨by simp; omega, fun x hx => ?_⟩
  obtain ⟨y, _, rfl⟩ := List.mem_map.1 hx
  simp; omega
theorem rowsB_len2 (names : List ByteArray) (h1 : ∀ s ∈ names, s.size ≤ 10000) : ∀ (tr : List (List Int)) (i : Nat), i + tr.length ≤ 9223372036854775807 → (∀ r ∈ tr, r.length ≤ 24 ∧ ∀ x ∈ r, (Lit.int .i64 x).wf = true) → (rowsB names i tr).length ≤ 300000 * tr.length
  | [], _, _, _ => by simp [rowsB]
  | r :: rest, i, hi, h => by
    have ih := rowsB_len2 names h1 rest (i + 1) (by simp at hi; omega) (fun a ha => h a (List.mem_cons_of_mem _ ha))
    have hr := h r List.mem_cons_self
    have a := itemsB_len names r h1 hr.2
    have b := firstB_size i (by simp at hi; omega)
    have e : (firstB i).data.toList.length = (firstB i).size := by simp
    have hm : 10023 * r.length ≤ 10023 * 24 := Nat.mul_le_mul_left _ hr.1
    simp only [rowsB, rowB, List.length_append, List.length_cons, List.length_nil]
    omega
theorem trace_len (n1 : List S72) (n2 : List S114) (tr : List (List Int)) (hl : tr.length ≤ 30) (hr : ∀ x ∈ tr, x.length ≤ 24) : (traceB (pinsC n1) (cellsC n2) tr).length ≤ 50000000 := by
  unfold traceB
  split
  · rename_i h
    have := rowsB_len2 ((pinsC n1).map (·.f0)) (fun z hz => by obtain ⟨y, hy, rfl⟩ := List.mem_map.1 hz; have := pinsC_size n1 y hy; omega) tr 0 (by omega) (fun r hq => by
      have := List.all_eq_true.1 h.2 r hq
      simp only [rowOk, Bool.and_eq_true, beq_iff_eq, List.all_eq_true, decide_eq_true_eq] at this
      exact ⟨hr r hq, fun x hx => wf_of x (by have := (this.2 x hx).1; omega) (by have := (this.2 x hx).2; omega)⟩)
    omega
  · simp
end Go.Proofs.YtmfekngjhiofaaaGreatDoor.Q
