/-
  Plain: what the laws of layer 27 cut off; sameness of a row with itself.
-/
import Derived.Test.YtmfekngjhiofaaaGreatDoorQx11
import Derived.Test.YtmfekngjhiofaaaGreatDoorQx4
import Derived.Test.YtmfekngjhiofaaaGreatDoorHClause
import Derived.Test.YtmfekngjhiofaaaGreatDoorPCut
set_option linter.unusedVariables false
set_option linter.unusedSimpArgs false
namespace Go.Proofs.YtmfekngjhiofaaaGreatDoor.Q
open Go.RowKit Go.Proofs.YtmfekngjhiofaaaGreatDoorW.PrintWords Go.Proofs.YtmfekngjhiofaaaGreatDoorW.PrintLast Go.Proofs.YtmfekngjhiofaaaGreatDoorW.PrintMore
theorem few27_f (n0 : List S125) (n1 : List S72) (n2 : List S114) (n3 : List S105) (n4 : List S72) (k : Nat) (hk : 60 < k) : proofmarkref27_Few.f k n0 n1 n2 n3 n4 = some ([], (n1.take 20).map cutP, (n2.take 20).map cutC, [], []) := by
  unfold proofmarkref27_Few.f
  exact few27_l0 n0 n1 n2 n3 n4 (min n1.length 20) k 0 (by omega) (by omega) (by omega)
theorem latches_f (a : Int) (l1 : List S199) (l2 : List S200) (l3 : List S94) (l4 : List S202) : proofmarkref27_Latches.f a l1 l2 l3 l4 = some (0, [], [], l3.take 40, []) := by
  unfold proofmarkref27_Latches.f
  have e : l3.take (min l3.length 40) = l3.take 40 := by rw [List.take_eq_take_iff]; omega
  simp only [Option.bind_some, List.length_nil, List.nil_append]
  rw [show (40 : Int) = ((40 : Nat) : Int) from rfl, mn_nat, if_pos (by omega), if_pos (by omega), Int.toNat_natCast, if_pos (by simp; omega), e]
abbrev pinsC (n1 : List S72) : List S72 := (n1.take 20).map cutP
abbrev cellsC (n2 : List S114) : List S114 := (n2.take 20).map cutC
abbrev latsC (l3 : List S94) : List S94 := l3.take 40
theorem fit27_f (n0 : List S125) (n1 : List S72) (n2 : List S114) (n3 : List S105) (n4 : List S72) (a : Int) (l1 : List S199) (l2 : List S200) (l3 : List S94) (l4 : List S202) (tr : List (List Int)) (l : List Int) (s : ByteArray) (k : Nat) (hk : 60 < k) :
    proofmarklaw27_fit.f k n0 n1 n2 n3 n4 a l1 l2 l3 l4 tr l s = some ([], pinsC n1, cellsC n2, [], [], 0, [], [], latsC l3, []) := by
  unfold proofmarklaw27_fit.f
  rw [few27_f n0 n1 n2 n3 n4 k hk, latches_f]
  rfl
theorem pinsC_size (n1 : List S72) : ∀ x ∈ pinsC n1, x.f0.size ≤ 12 := by
  intro x hx
  obtain ⟨y, _, rfl⟩ := List.mem_map.1 hx
  exact cutS_size _
theorem cellsC_size (n2 : List S114) : ∀ x ∈ cellsC n2, x.f0.size ≤ 12 := by
  intro x hx
  obtain ⟨y, _, rfl⟩ := List.mem_map.1 hx
  exact cutS_size _
theorem pinsC_len (n1 : List S72) : (pinsC n1).length ≤ 20 := by unfold pinsC; simp; omega
theorem shortP_C (n1 : List S72) : shortP (pinsC n1) = true := List.all_eq_true.2 fun x hx => decide_eq_true (by have := pinsC_size n1 x hx; omega)
theorem shortC_C (n2 : List S114) : shortC (cellsC n2) = true := List.all_eq_true.2 fun x hx => decide_eq_true (by have := cellsC_size n2 x hx; omega)
theorem smallP_C (n1 : List S72) : (pinsC n1).all (fun x => decide (x.f0.size ≤ 10000)) = true := List.all_eq_true.2 fun x hx => decide_eq_true (by have := pinsC_size n1 x hx; omega)
theorem smallC_C (n2 : List S114) : (cellsC n2).all (fun x => decide (x.f0.size ≤ 10000)) = true := List.all_eq_true.2 fun x hx => decide_eq_true (by have := cellsC_size n2 x hx; omega)
theorem latsC_wf (l3 : List S94) (h : ∀ p ∈ l3, (Lit.int .i64 p.f4).wf = true) : (latsC l3).all (fun x => (Lit.int .i64 x.f4).wf) = true := List.all_eq_true.2 fun x hx => h x (List.mem_of_mem_take hx)
theorem latsC_len (l3 : List S94) : (latsC l3).length ≤ 40 := by unfold latsC; simp; omega
theorem sameInts_l0 (l : List Int) (hl : l.length ≤ 1000) (d : Nat) : ∀ (k i : Nat), l.length - i = d → d < k → i ≤ l.length → proofmarkref27_SameInts.l0 k l l (i : Int) = some true := by
  induction d with
  | zero =>
    intro k i h1 h2 h3
    obtain ⟨k, rfl⟩ : ∃ q, k = q + 1 := ⟨k - 1, by omega⟩
    simp only [proofmarkref27_SameInts.l0]
    rw [if_neg (by omega)]
  | succ d ih =>
    intro k i h1 h2 h3
    obtain ⟨k, rfl⟩ : ∃ q, k = q + 1 := ⟨k - 1, by omega⟩
    simp only [proofmarkref27_SameInts.l0]
    rw [if_pos (by omega), if_pos (by omega), if_pos (by omega), if_pos trivial, wrap_one i (by omega)]
    exact ih k (i + 1) (by omega) (by omega) (by omega)
theorem sameInts_f (l : List Int) (hl : l.length ≤ 1000) (k : Nat) (hk : 1000 < k) : proofmarkref27_SameInts.f k l l = some true := by
  unfold proofmarkref27_SameInts.f
  rw [if_pos rfl]
  exact sameInts_l0 l hl l.length k 0 (by omega) (by omega) (by omega)
theorem sameRows_l0 (l : List (List Int)) (hl : l.length ≤ 1000) (hr : ∀ x ∈ l, x.length ≤ 1000) (d : Nat) : ∀ (k i : Nat), l.length - i = d → d + 1001 < k → i ≤ l.length → proofmarkref27_SameRows.l0 k l l (i : Int) = some true := by
  induction d with
  | zero =>
    intro k i h1 h2 h3
    obtain ⟨k, rfl⟩ : ∃ q, k = q + 1 := ⟨k - 1, by omega⟩
    simp only [proofmarkref27_SameRows.l0]
    rw [if_neg (by omega)]
  | succ d ih =>
    intro k i h1 h2 h3
    obtain ⟨k, rfl⟩ : ∃ q, k = q + 1 := ⟨k - 1, by omega⟩
    have hi : i < l.length := by omega
    have e : rd_L12 l (i : Int) = l[i] := by simp [rd_L12, hi]
    simp only [proofmarkref27_SameRows.l0, e]
    rw [if_pos (by omega), if_pos (by omega), if_pos (by omega), sameInts_f _ (hr _ (List.getElem_mem hi)) k (by omega)]
    simp only [Option.bind_some, if_true]
    rw [wrap_one i (by omega)]
    exact ih k (i + 1) (by omega) (by omega) (by omega)
theorem sameRows_f (l : List (List Int)) (hl : l.length ≤ 1000) (hr : ∀ x ∈ l, x.length ≤ 1000) (k : Nat) (hk : 3000 < k) : proofmarkref27_SameRows.f k l l = some true := by
  unfold proofmarkref27_SameRows.f
  rw [if_pos rfl]
  exact sameRows_l0 l hl hr l.length k 0 (by omega) (by omega) (by omega)
theorem clause_len (l1 : List S72) (l2 : List S114) (lats : List S94) (l : List Int) (h2 : ∀ x ∈ l2, x.f0.size ≤ 10000) (h3 : lats.all (fun x => (Lit.int .i64 x.f4).wf) = true) : (clauseB l1 l2 lats l).length ≤ 10027 * l.length + 5 := by
  unfold clauseB
  split
  · split
    · simp
    · split
      · rename_i hall
        have := join_len barB.data.toList 10024 ((l.map (wordB l2 lats)).map (·.data.toList)) (fun z hz => by
          obtain ⟨b, hb, rfl⟩ := List.mem_map.1 hz
          obtain ⟨x, hx, rfl⟩ := List.mem_map.1 hb
          have := wordB_size l2 lats x h2 h3 (List.all_eq_true.1 hall x hx)
          simpa using this)
        have e : barB.data.toList.length = 3 := rfl
        rw [e] at this
        simp only [List.length_map] at this
        unfold joinB
        omega
      · simp
  · simp
/-- a text, cut at 2000 bytes -/
def cutU (s : ByteArray) : ByteArray := s.extract 0 (min s.size 2000)
theorem cutU_size (s : ByteArray) : (cutU s).size ≤ 2000 := by unfold cutU; rw [ByteArray.size_extract]; omega
end Go.Proofs.YtmfekngjhiofaaaGreatDoor.Q
