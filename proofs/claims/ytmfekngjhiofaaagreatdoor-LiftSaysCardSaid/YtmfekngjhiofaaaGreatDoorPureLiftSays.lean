/-
  Plain: LiftSays' printed function answers true.
-/
import Derived.Test.YtmfekngjhiofaaaGreatDoorLLiftSays
import Derived.Test.YtmfekngjhiofaaaGreatDoorPHeadL
import Derived.Test.YtmfekngjhiofaaaGreatDoorPLift
import Derived.Test.YtmfekngjhiofaaaGreatDoorPRLits
set_option linter.unusedVariables false
set_option linter.unusedSimpArgs false
namespace Go.Proofs.YtmfekngjhiofaaaGreatDoor.Q
open Go.RowKit Go.Proofs.YtmfekngjhiofaaaGreatDoorW.PrintWords Go.Proofs.YtmfekngjhiofaaaGreatDoorW.PrintLast Go.Proofs.YtmfekngjhiofaaaGreatDoorW.PrintMore
theorem head_from (k : Nat) (hk : 12 ≤ k) : proofmarklaw27_head.f k = some true := by
  obtain ⟨d, rfl⟩ : ∃ d, k = 12 + d := ⟨k - 12, by omega⟩
  induction d with
  | zero => exact head_true
  | succ d ih => exact proofmarklaw27_head.mono _ _ (ih (by omega))
theorem clause_f (n1 : List S72) (n2 : List S114) (l3 : List S94) (h3 : ∀ p ∈ l3, (Lit.int .i64 p.f4).wf = true) (l : List Int) (hl : l.length ≤ 10000) :
    lift_Clause.f [] (pinsC n1) (cellsC n2) [] [] 0 [] [] (latsC l3) [] l = some ⟨(clauseB (pinsC n1) (cellsC n2) (latsC l3) l).toArray⟩ := by
  unfold lift_Clause.f
  have hf : clauseFit (pinsC n1) (cellsC n2) (latsC l3) l = true := by
    unfold clauseFit
    rw [shortP_C, shortC_C, smallC_C, latsC_wf l3 h3, decide_eq_true hl]; rfl
  rw [if_pos hf]
theorem lits_f (n1 : List S72) (n2 : List S114) (l3 : List S94) (h3 : ∀ p ∈ l3, (Lit.int .i64 p.f4).wf = true) (s : ByteArray) (hs : s.size < 4294967281) :
    lift_Lits.f [] (pinsC n1) (cellsC n2) [] [] 0 [] [] (latsC l3) [] s = some (litsB (pinsC n1) (cellsC n2) (latsC l3) s) := by
  unfold lift_Lits.f
  have hf : litsFit (pinsC n1) (cellsC n2) (latsC l3) s = true := by
    unfold litsFit
    rw [shortP_C, shortC_C, smallC_C, latsC_wf l3 h3, decide_eq_true (show (latsC l3).length ≤ 1000000 by have := latsC_len l3; omega), decide_eq_true hs]; rfl
  rw [if_pos hf]
theorem namesFit_C (n1 : List S72) : namesFit (pinsC n1) = true := by
  unfold namesFit
  have h1 := pinsC_len n1
  rw [decide_eq_true (show (pinsC n1).length ≤ 1000 by omega), Bool.true_and]
  exact List.all_eq_true.2 fun x hx => decide_eq_true (by have := pinsC_size n1 x hx; omega)
theorem cellsC_len (n2 : List S114) : (cellsC n2).length ≤ 20 := by unfold cellsC; simp; omega
theorem cellsFit_C (n2 : List S114) : cellsFit (cellsC n2) = true := by
  unfold cellsFit
  have h1 := cellsC_len n2
  rw [decide_eq_true (show (cellsC n2).length ≤ 1000 by omega), Bool.true_and]
  exact List.all_eq_true.2 fun x hx => decide_eq_true (by have := cellsC_size n2 x hx; omega)
theorem sameInts_l5 (l : List Int) (hl : l.length ≤ 5000) (d : Nat) : ∀ (k i : Nat), l.length - i = d → d < k → i ≤ l.length → proofmarkref27_SameInts.l0 k l l (i : Int) = some true := by
  induction d with
  | zero =>
    intro k i h1 h2 h3
    obtain ⟨k, rfl⟩ : ∃ q, k = q + 1 := ⟨k - 1, by omega⟩
    simp only [proofmarkref27_SameInts.l0]
    rw [if_neg (by omega)]
  | succ d ih =>
    intro k i h1 h2 h3
    obtain ⟨k, rfl⟩ : ∃ q, k = q + 1 := ⟨k - 1, by omega⟩
    simp only [proofmarkref27_SameInts.l0]
    rw [if_pos (by omega), if_pos (by omega), if_pos (by omega), if_pos trivial, wrap_one i (by omega)]
    exact ih k (i + 1) (by omega) (by omega) (by omega)
theorem sameInts_5 (l : List Int) (hl : l.length ≤ 5000) (k : Nat) (hk : 5000 < k) : proofmarkref27_SameInts.f k l l = some true := by
  unfold proofmarkref27_SameInts.f
  rw [if_pos rfl]
  exact sameInts_l5 l hl l.length k 0 (by omega) (by omega) (by omega)
theorem litsB_len (n1 : List S72) (n2 : List S114) (lats : List S94) (u : ByteArray) (hu : u.size ≤ 2000) : (litsB n1 n2 lats u).1.length ≤ 5000 := by
  have hpl : (piecesB u).length ≤ u.size + 1 := splitS_bound u _ (by decide)
  unfold litsB
  split
  · split
    · simp
    · unfold readB
      split
      · rw [List.length_map]; omega
      · simp
  · simp
theorem LiftSays (k : Nat) (hk : 30000000 ≤ k) (n0 : List S125) (n1 : List S72) (n2 : List S114) (n3 : List S105) (n4 : List S72) (a : Int) (l1 : List S199) (l2 : List S200) (l3 : List S94) (l4 : List S202) (tr : List (List Int)) (l : List Int) (s : ByteArray)
    (h3 : ∀ p ∈ l3, (Lit.int .i64 p.f4).wf = true) (h : ∀ y ∈ l, (Lit.int .i64 y).wf = true) : proofmarklaw27_LiftSays.f k n0 n1 n2 n3 n4 a l1 l2 l3 l4 tr l s = some true := by
  unfold proofmarklaw27_LiftSays.f
  rw [head_from k (by omega), Option.bind_some, fit27_f n0 n1 n2 n3 n4 a l1 l2 l3 l4 tr l s k (by omega), Option.bind_some]
  have e : l.take (min l.length 30) = l.take 30 := by rw [List.take_eq_take_iff]; omega
  rw [show (30 : Int) = ((30 : Nat) : Int) from rfl, mn_nat, if_pos (by omega), if_pos (by omega), Int.toNat_natCast, e]
  have hl : (l.take 30).length ≤ 30 := by simp; omega
  have hw : ∀ y ∈ l.take 30, (Lit.int .i64 y).wf = true := fun y hy => h y (List.mem_of_mem_take hy)
  generalize l.take 30 = q at hl hw ⊢
  rw [show (2000 : Int) = ((2000 : Nat) : Int) from rfl, mn_nat, if_pos (by omega), if_pos (by omega), Int.toNat_natCast]
  have hu : s.extract 0 (min s.size 2000) = cutU s := rfl
  rw [hu]
  have hus := cutU_size s
  generalize cutU s = u at hus
  have hp := pinsC_len n1
  have hq := cellsC_len n2
  have hll := latsC_len l3
  have hRL := refLits_f [] (pinsC n1) (cellsC n2) [] [] 0 [] [] (latsC l3) [] (by omega) (fun x hx => by have := pinsC_size n1 x hx; omega) (by omega) (fun x hx => by have := cellsC_size n2 x hx; omega) (latsC_wf l3 h3) (by omega) u (by omega) k hk
  have hT : proofmarkref27_Clause.f [] (pinsC n1) (cellsC n2) [] [] 0 [] [] (latsC l3) [] q = lift_Clause.f [] (pinsC n1) (cellsC n2) [] [] 0 [] [] (latsC l3) [] q := by
    unfold proofmarkref27_Clause.f
    have hqw : q.all (fun x => (Lit.int .i64 x).wf) = true := List.all_eq_true.2 hw
    rw [if_pos (by rw [namesFit_C, cellsFit_C, hqw]; rfl)]
  show (lift_Lits.f [] (pinsC n1) (cellsC n2) [] [] 0 [] [] (latsC l3) [] u).bind _ = some true
  rw [lits_f n1 n2 l3 h3 u (by omega), Option.bind_some]
  show (proofmarkref27_Lits.f k [] (pinsC n1) (cellsC n2) [] [] 0 [] [] (latsC l3) [] u).bind _ = some true
  rw [hRL, Option.bind_some, if_pos rfl]
  show (lift_Clause.f [] (pinsC n1) (cellsC n2) [] [] 0 [] [] (latsC l3) [] q).bind _ = some true
  rw [clause_f n1 n2 l3 h3 q (by omega), Option.bind_some]
  show (proofmarkref27_Clause.f [] (pinsC n1) (cellsC n2) [] [] 0 [] [] (latsC l3) [] q).bind _ = some true
  rw [hT, clause_f n1 n2 l3 h3 q (by omega), Option.bind_some, if_pos rfl, if_pos (by simp), sameInts_5 _ (litsB_len _ _ _ u hus) k (by omega), Option.bind_some]
end Go.Proofs.YtmfekngjhiofaaaGreatDoor.Q
