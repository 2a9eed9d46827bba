/-
  Plain: the document's Few, Rows and Fit, loop by loop.
-/
import Derived.Test.YtmfekngjhiofaaaGreatDoorQx24
import Derived.Test.YtmfekngjhiofaaaGreatDoorPRows
import Derived.Test.YtmfekngjhiofaaaGreatDoorQx24
import Derived.Test.YtmfekngjhiofaaaGreatDoorPPlain
set_option linter.unusedVariables false
set_option linter.unusedSimpArgs false
namespace Go.Proofs.YtmfekngjhiofaaaGreatDoor.Q
open Go.RowKit Go.Proofs.YtmfekngjhiofaaaGreatDoorW.PrintWords Go.Proofs.YtmfekngjhiofaaaGreatDoorW.PrintLast Go.Proofs.YtmfekngjhiofaaaGreatDoorW.PrintMore
def cutR (x : S105) : S105 := ⟨x.f0, cutS x.f1, x.f2⟩
theorem few30_l0 (n0 : List S125) (n1 : List S72) (n2 : List S114) (n3 : List S105) (n4 : List S72) (r0 : List S125) (r1 : List S72) (r2 : List S114) (r4 : List S72) (d : Nat) : ∀ (k i : Nat), min n3.length 40 - i = d → i ≤ min n3.length 40 → d < k → proofmarkref30_Few.l0 k (i : Int) n0 n1 n2 n3 n4 r0 r1 r2 ((n3.take i).map cutR) r4 = some (r0, r1, r2, (n3.take 40).map cutR, r4) := by
  induction d with
  | zero =>
    intro k i h1 h2 h3
    obtain ⟨k, rfl⟩ : ∃ m, k = m + 1 := ⟨k - 1, by omega⟩
    simp only [proofmarkref30_Few.l0]
    rw [take_end cutR n3 i 40 h1 h2]
    by_cases hi : (i : Int) < (n3.length : Int)
    · rw [if_pos hi, if_neg (by omega)]
    · rw [if_neg hi]
  | succ d ih =>
    intro k i h1 h2 h3
    obtain ⟨k, rfl⟩ : ∃ m, k = m + 1 := ⟨k - 1, by omega⟩
    have hi : i < n3.length := by omega
    have hr : rd_T105 n3 (i : Int) = n3[i] := by simp [rd_T105, hi]
    have hm := mn_nat (n3[i]).f1.size 12
    have hl : ((n3.take i).map cutR).length ≤ 40 := by simp; omega
    simp only [proofmarkref30_Few.l0, hr]
    rw [show (12 : Int) = ((12 : Nat) : Int) from rfl, hm, if_pos (by omega), if_pos (by omega), if_pos (by omega), if_pos (by omega), if_pos (by omega), if_pos (by omega), wrap_one i (by omega), Int.toNat_natCast]
    have := ih k (i + 1) (by omega) (by omega) (by omega)
    rw [← take_push cutR n3 i hi] at this
    exact this
theorem few30_f (n0 : List S125) (n1 : List S72) (n2 : List S114) (n3 : List S105) (n4 : List S72) (k : Nat) (hk : 60 < k) : proofmarkref30_Few.f k n0 n1 n2 n3 n4 = some (n0.take 40, (n1.take 20).map cutP, (n2.take 20).map cutC, (n3.take 40).map cutR, []) := by
  unfold proofmarkref30_Few.f proofmarkref27_Few.f
  have h0 := few27_l0 n0 n1 n2 n3 n4 (min n1.length 20) k 0 (by omega) (by omega) (by omega)
  have h0' : proofmarkref27_Few.l0 k 0 n0 n1 n2 n3 n4 [] = _ := h0
  rw [h0']
  simp only [Option.bind_some]
  rw [show (40 : Int) = ((40 : Nat) : Int) from rfl, mn_nat, if_pos (by omega), if_pos (by omega)]
  rw [if_pos (by simp; omega), Int.toNat_natCast]
  have h1 := few30_l0 n0 n1 n2 n3 n4 (n0.take (min n0.length 40)) ((n1.take 20).map cutP) ((n2.take 20).map cutC) [] (min n3.length 40) k 0 (by omega) (by omega) (by omega)
  have e : n0.take (min n0.length 40) = n0.take 40 := by rw [List.take_eq_take_iff]; omega
  rw [e] at h1 ⊢
  exact h1
theorem fit_f (a b : Int) (t v : List (List Int)) (k : Nat) (hk : 60 < k) : proofmarkref30_Fit.f k a b t v = some (a, b, rowsP t, rowsP v) := by
  unfold proofmarkref30_Fit.f proofmarkref27_Rows.f
  have h0 : proofmarkref27_Rows.l0 k t [] 0 = some (rowsP t) := rows_l0 t (min t.length 30) k 0 (by omega) (by omega) (by omega)
  have h1 : proofmarkref27_Rows.l0 k v [] 0 = some (rowsP v) := rows_l0 v (min v.length 30) k 0 (by omega) (by omega) (by omega)
  rw [h0, h1]; rfl
end Go.Proofs.YtmfekngjhiofaaaGreatDoor.Q
