/-
  Plain: the document's Rows.
-/
import Derived.Test.YtmfekngjhiofaaaGreatDoorQx11
import Derived.Test.YtmfekngjhiofaaaGreatDoorPCut
set_option linter.unusedVariables false
set_option linter.unusedSimpArgs false
namespace Go.Proofs.YtmfekngjhiofaaaGreatDoor.Q
open Go.RowKit Go.Proofs.YtmfekngjhiofaaaGreatDoorW.PrintWords Go.Proofs.YtmfekngjhiofaaaGreatDoorW.PrintLast Go.Proofs.YtmfekngjhiofaaaGreatDoorW.PrintMore
def rowsP (l : List (List Int)) : List (List Int) := (l.take 30).map (·.take 24)
theorem rows_l0 (l : List (List Int)) (d : Nat) : ∀ (k i : Nat), min l.length 30 - i = d → i ≤ min l.length 30 → d < k → proofmarkref27_Rows.l0 k l ((l.take i).map (·.take 24)) (i : Int) = some (rowsP l) := by
  induction d with
  | zero =>
    intro k i h1 h2 h3
    obtain ⟨k, rfl⟩ : ∃ m, k = m + 1 := ⟨k - 1, by omega⟩
    simp only [proofmarkref27_Rows.l0]
    rw [take_end (·.take 24) l i 30 h1 h2]
    by_cases hi : (i : Int) < (l.length : Int)
    · rw [if_pos hi, if_neg (by omega)]; rfl
    · rw [if_neg hi]; rfl
  | succ d ih =>
    intro k i h1 h2 h3
    obtain ⟨k, rfl⟩ : ∃ m, k = m + 1 := ⟨k - 1, by omega⟩
    have hi : i < l.length := by omega
    have hr : rd_L12 l (i : Int) = l[i] := by simp [rd_L12, hi]
    have hm := mn_nat (l[i]).length 24
    have hl : ((l.take i).map (·.take 24)).length ≤ 30 := by simp; omega
    simp only [proofmarkref27_Rows.l0, hr, Option.bind_some, List.nil_append, List.length_nil]
    rw [show (24 : Int) = ((24 : Nat) : Int) from rfl, hm, if_pos (by omega), if_pos (by omega), if_pos (by omega), if_pos (by omega), if_pos (by omega), Int.toNat_natCast]
    rw [if_pos (by simp; omega), if_pos (by omega), wrap_one i (by omega)]
    have e : (l[i]).take (min (l[i]).length 24) = (l[i]).take 24 := by rw [List.take_eq_take_iff]; omega
    have := ih k (i + 1) (by omega) (by omega) (by omega)
    rw [← take_push (·.take 24) l i hi] at this
    rw [e]
    exact this
theorem rows_f (l : List (List Int)) (k : Nat) (hk : 60 < k) : proofmarkref27_Rows.f k l = some (rowsP l) := by
  unfold proofmarkref27_Rows.f
  exact rows_l0 l (min l.length 30) k 0 (by omega) (by omega) (by omega)
end Go.Proofs.YtmfekngjhiofaaaGreatDoor.Q
