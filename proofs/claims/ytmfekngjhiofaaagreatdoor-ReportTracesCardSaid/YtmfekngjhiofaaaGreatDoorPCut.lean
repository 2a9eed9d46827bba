/-
  Plain: the document's Few (layer 27), loop by loop.
-/
import Derived.Test.YtmfekngjhiofaaaGreatDoorQx10
set_option linter.unusedVariables false
set_option linter.unusedSimpArgs false
namespace Go.Proofs.YtmfekngjhiofaaaGreatDoor.Q
open Go.RowKit Go.Proofs.YtmfekngjhiofaaaGreatDoorW.PrintWords Go.Proofs.YtmfekngjhiofaaaGreatDoorW.PrintLast Go.Proofs.YtmfekngjhiofaaaGreatDoorW.PrintMore
theorem wrap_one (i : Nat) (h : i < 4611686018427387904) : wrap64 ((i : Int) + 1) = ((i + 1 : Nat) : Int) := by unfold wrap64; omega
theorem mn_nat (n m : Nat) : mn (n : Int) (m : Int) = ((min n m : Nat) : Int) := by unfold mn; split <;> omega
def cutS (s : ByteArray) : ByteArray := s.extract 0 (min s.size 12)
def cutP (x : S72) : S72 := ⟨cutS x.f0, x.f1⟩
def cutC (x : S114) : S114 := ⟨cutS x.f0, x.f1, x.f2, x.f3⟩
theorem cutS_size (s : ByteArray) : (cutS s).size ≤ 12 := by unfold cutS; rw [ByteArray.size_extract]; omega
theorem take_push {α β : Type} (f : α → β) (l : List α) (i : Nat) (h : i < l.length) : (l.take i).map f ++ [f l[i]] = (l.take (i + 1)).map f := by
  rw [List.take_add_one, List.getElem?_eq_getElem h, List.map_append]; rfl
theorem take_end {α β : Type} (f : α → β) (l : List α) (i n : Nat) (h : min l.length n - i = 0) (hi : i ≤ min l.length n) : (l.take i).map f = (l.take n).map f := by
  by_cases hn : n ≤ l.length
  · rw [show i = n by omega]
  · rw [List.take_of_length_le (by omega), List.take_of_length_le (by omega)]
theorem few27_l1 (n0 : List S125) (n1 : List S72) (n2 : List S114) (n3 : List S105) (n4 : List S72) (p : List S72) (d : Nat) : ∀ (k i : Nat), min n2.length 20 - i = d → i ≤ min n2.length 20 → d < k → proofmarkref27_Few.l1 k (i : Int) n0 n1 n2 n3 n4 p ((n2.take i).map cutC) = some ([], p, (n2.take 20).map cutC, [], []) := by
  induction d with
  | zero =>
    intro k i h1 h2 h3
    obtain ⟨k, rfl⟩ : ∃ m, k = m + 1 := ⟨k - 1, by omega⟩
    simp only [proofmarkref27_Few.l1]
    rw [take_end cutC n2 i 20 h1 h2]
    by_cases hi : (i : Int) < (n2.length : Int)
    · rw [if_pos hi, if_neg (by omega)]
    · rw [if_neg hi]
  | succ d ih =>
    intro k i h1 h2 h3
    obtain ⟨k, rfl⟩ : ∃ m, k = m + 1 := ⟨k - 1, by omega⟩
    have hi : i < n2.length := by omega
    have hr : rd_T114 n2 (i : Int) = n2[i] := by simp [rd_T114, hi]
    have hm := mn_nat (n2[i]).f0.size 12
    have hl : ((n2.take i).map cutC).length ≤ 20 := by simp; omega
    simp only [proofmarkref27_Few.l1, hr]
    rw [show (12 : Int) = ((12 : Nat) : Int) from rfl, hm, if_pos (by omega), if_pos (by omega), if_pos (by omega), if_pos (by omega), if_pos (by omega), if_pos (by omega), wrap_one i (by omega), Int.toNat_natCast]
    have := ih k (i + 1) (by omega) (by omega) (by omega)
    rw [← take_push cutC n2 i hi] at this
    exact this
theorem few27_l0 (n0 : List S125) (n1 : List S72) (n2 : List S114) (n3 : List S105) (n4 : List S72) (d : Nat) : ∀ (k i : Nat), min n1.length 20 - i = d → i ≤ min n1.length 20 → d + 30 < k → proofmarkref27_Few.l0 k (i : Int) n0 n1 n2 n3 n4 ((n1.take i).map cutP) = some ([], (n1.take 20).map cutP, (n2.take 20).map cutC, [], []) := by
  induction d with
  | zero =>
    intro k i h1 h2 h3
    obtain ⟨k, rfl⟩ : ∃ m, k = m + 1 + 1 := ⟨k - 2, by omega⟩
    simp only [proofmarkref27_Few.l0, proofmarkref27_Few.j1]
    rw [take_end cutP n1 i 20 h1 h2]
    have hL := few27_l1 n0 n1 n2 n3 n4 ((n1.take 20).map cutP) (min n2.length 20) k 0 (by omega) (by omega) (by omega)
    by_cases hi : (i : Int) < (n1.length : Int)
    · rw [if_pos hi, if_neg (by omega)]; exact hL
    · rw [if_neg hi]; exact hL
  | succ d ih =>
    intro k i h1 h2 h3
    obtain ⟨k, rfl⟩ : ∃ m, k = m + 1 := ⟨k - 1, by omega⟩
    have hi : i < n1.length := by omega
    have hr : rd_T72 n1 (i : Int) = n1[i] := by simp [rd_T72, hi]
    have hm := mn_nat (n1[i]).f0.size 12
    have hl : ((n1.take i).map cutP).length ≤ 20 := by simp; omega
    simp only [proofmarkref27_Few.l0, hr]
    rw [show (12 : Int) = ((12 : Nat) : Int) from rfl, hm, if_pos (by omega), if_pos (by omega), if_pos (by omega), if_pos (by omega), if_pos (by omega), if_pos (by omega), wrap_one i (by omega), Int.toNat_natCast]
    have := ih k (i + 1) (by omega) (by omega) (by omega)
    rw [← take_push cutP n1 i hi] at this
    exact this
/-- a byte that a plain name does not hold -/
def oddC (c : UInt8) : Bool := c == 32 || c == 10 || c == 61 || c == 124 || c == 126 || c == 58
end Go.Proofs.YtmfekngjhiofaaaGreatDoor.Q
