/-
  Plain: LiftTells' printed function answers true.
-/
import Derived.Test.YtmfekngjhiofaaaGreatDoorLLiftTells
import Derived.Test.YtmfekngjhiofaaaGreatDoorPTraceF
import Derived.Test.YtmfekngjhiofaaaGreatDoorPRBack
set_option linter.unusedVariables false
set_option linter.unusedSimpArgs false
namespace Go.Proofs.YtmfekngjhiofaaaGreatDoor.Q
open Go.RowKit Go.Proofs.YtmfekngjhiofaaaGreatDoorW.PrintWords Go.Proofs.YtmfekngjhiofaaaGreatDoorW.PrintLast Go.Proofs.YtmfekngjhiofaaaGreatDoorW.PrintMore
theorem sameRows_l5 (l : List (List Int)) (hl : l.length ≤ 5000) (hr : ∀ x ∈ l, x.length ≤ 1000) (d : Nat) : ∀ (k i : Nat), l.length - i = d → d + 1001 < k → i ≤ l.length → proofmarkref27_SameRows.l0 k l l (i : Int) = some true := by
  induction d with
  | zero =>
    intro k i h1 h2 h3
    obtain ⟨k, rfl⟩ : ∃ q, k = q + 1 := ⟨k - 1, by omega⟩
    simp only [proofmarkref27_SameRows.l0]
    rw [if_neg (by omega)]
  | succ d ih =>
    intro k i h1 h2 h3
    obtain ⟨k, rfl⟩ : ∃ q, k = q + 1 := ⟨k - 1, by omega⟩
    have hi : i < l.length := by omega
    have e : rd_L12 l (i : Int) = l[i] := by simp [rd_L12, hi]
    simp only [proofmarkref27_SameRows.l0, e]
    rw [if_pos (by omega), if_pos (by omega), if_pos (by omega), sameInts_f _ (hr _ (List.getElem_mem hi)) k (by omega)]
    simp only [Option.bind_some, if_true]
    rw [wrap_one i (by omega)]
    exact ih k (i + 1) (by omega) (by omega) (by omega)
theorem sameRows_5 (l : List (List Int)) (hl : l.length ≤ 5000) (hr : ∀ x ∈ l, x.length ≤ 1000) (k : Nat) (hk : 7000 < k) : proofmarkref27_SameRows.f k l l = some true := by
  unfold proofmarkref27_SameRows.f
  rw [if_pos rfl]
  exact sameRows_l5 l hl hr l.length k 0 (by omega) (by omega) (by omega)
theorem namesFit_C (n1 : List S72) : namesFit (pinsC n1) = true := by
  unfold namesFit
  have h1 := pinsC_len n1
  rw [decide_eq_true (show (pinsC n1).length ≤ 1000 by omega), Bool.true_and]
  exact List.all_eq_true.2 fun x hx => decide_eq_true (by have := pinsC_size n1 x hx; omega)
theorem cellsC_len (n2 : List S114) : (cellsC n2).length ≤ 20 := by unfold cellsC; simp; omega
theorem cellsFit_C (n2 : List S114) : cellsFit (cellsC n2) = true := by
  unfold cellsFit
  have h1 := cellsC_len n2
  rw [decide_eq_true (show (cellsC n2).length ≤ 1000 by omega), Bool.true_and]
  exact List.all_eq_true.2 fun x hx => decide_eq_true (by have := cellsC_size n2 x hx; omega)
theorem backB_rows (n1 : List S72) (n2 : List S114) (u : ByteArray) (hu : u.size ≤ 2000) : (backB (pinsC n1) (cellsC n2) u).1.length ≤ 5000 ∧ ∀ x ∈ (backB (pinsC n1) (cellsC n2) u).1, x.length ≤ 1000 := by
  have ht := text_back (pinsC n1) (cellsC n2) u
  have hp := pinsC_len n1
  by_cases hb : (backB (pinsC n1) (cellsC n2) u).2 = true
  · have h1 := ht.1 hb
    refine ⟨by omega, fun x hx => ?_⟩
    have hne : (backB (pinsC n1) (cellsC n2) u).1 ≠ [] := fun e => by rw [e] at hx; cases hx
    have hu0 : u.data.toList ≠ [] := by
      intro e
      apply hne
      unfold backB
      split
      · rw [if_pos (by rw [ByteArray.toList_eq, e])]
      · rfl
    have hte := h1.1
    unfold traceB at hte
    split at hte
    · rename_i hc
      have := List.all_eq_true.1 hc.2 x hx
      have := (rowOk_iff.1 this).1
      omega
    · exact absurd hte.symm hu0
  · rw [ht.2 (Bool.eq_false_iff.2 hb)]
    exact ⟨by simp, fun x hx => by cases hx⟩
theorem LiftTells (k : Nat) (hk : 3000000 ≤ k) (n0 : List S125) (n1 : List S72) (n2 : List S114) (n3 : List S105) (n4 : List S72) (a : Int) (l1 : List S199) (l2 : List S200) (l3 : List S94) (l4 : List S202) (tr : List (List Int)) (l : List Int) (s : ByteArray) :
    proofmarklaw27_LiftTells.f k n0 n1 n2 n3 n4 a l1 l2 l3 l4 tr l s = some true := by
  unfold proofmarklaw27_LiftTells.f
  rw [head_from k (by omega), Option.bind_some, fit27_f n0 n1 n2 n3 n4 a l1 l2 l3 l4 tr l s k (by omega), Option.bind_some, rows_f tr k (by omega), Option.bind_some]
  obtain ⟨hl, hr⟩ := rowsP_len tr
  generalize rowsP tr = t at hl hr ⊢
  rw [show (2000 : Int) = ((2000 : Nat) : Int) from rfl, mn_nat, if_pos (by omega), if_pos (by omega), Int.toNat_natCast]
  have hu : s.extract 0 (min s.size 2000) = cutU s := rfl
  rw [hu]
  have hus := cutU_size s
  generalize cutU s = u at hus
  have hp := pinsC_len n1
  have hq := cellsC_len n2
  have hB := backB_rows n1 n2 u hus
  have hRB := refBack_f [] (pinsC n1) (cellsC n2) [] [] (by omega) (fun x hx => by have := pinsC_size n1 x hx; omega) (by omega) (fun x hx => by have := cellsC_size n2 x hx; omega) u (by omega) k (by omega)
  have hT : proofmarkref27_Trace.f [] (pinsC n1) (cellsC n2) [] [] t = lift_Trace.f [] (pinsC n1) (cellsC n2) [] [] t := by
    unfold proofmarkref27_Trace.f
    rw [if_pos ⟨namesFit_C n1, cellsFit_C n2⟩]
  show (lift_Back.f [] (pinsC n1) (cellsC n2) [] [] u).bind _ = some true
  rw [back_f n1 n2 u (by omega), Option.bind_some]
  show (proofmarkref27_Back.f k [] (pinsC n1) (cellsC n2) [] [] u).bind _ = some true
  rw [hRB, Option.bind_some, if_pos rfl]
  show (lift_Trace.f [] (pinsC n1) (cellsC n2) [] [] t).bind _ = some true
  rw [trace_f n1 n2 t (by omega), Option.bind_some]
  show (proofmarkref27_Trace.f [] (pinsC n1) (cellsC n2) [] [] t).bind _ = some true
  rw [hT, trace_f n1 n2 t (by omega), Option.bind_some, if_pos rfl, if_pos (by simp), sameRows_5 _ hB.1 hB.2 k (by omega), Option.bind_some]
end Go.Proofs.YtmfekngjhiofaaaGreatDoor.Q
