/-
  Plain: LiftReads' printed function answers true.
-/
import Derived.Test.YtmfekngjhiofaaaDoorLLiftReads
import Derived.Test.YtmfekngjhiofaaaDoorPHeadL
import Derived.Test.YtmfekngjhiofaaaDoorPLift
import Derived.Test.YtmfekngjhiofaaaDoorPLits
set_option linter.unusedVariables false
set_option linter.unusedSimpArgs false
namespace Go.Proofs.YtmfekngjhiofaaaDoor.Q
open Go.RowKit Go.Proofs.YtmfekngjhiofaaaDoorW.PrintWords Go.Proofs.YtmfekngjhiofaaaDoorW.PrintLast Go.Proofs.YtmfekngjhiofaaaDoorW.PrintMore
theorem head_from (k : Nat) (hk : 12 ≤ k) : proofmarklaw27_head.f k = some true := by
  obtain ⟨d, rfl⟩ : ∃ d, k = 12 + d := ⟨k - 12, by omega⟩
  induction d with
  | zero => exact head_true
  | succ d ih => exact proofmarklaw27_head.mono _ _ (ih (by omega))
theorem clause_f (n1 : List S111) (n2 : List S94) (l3 : List S98) (h3 : ∀ p ∈ l3, (Lit.int .i64 p.f4).wf = true) (l : List Int) (hl : l.length ≤ 10000) :
    lift_Clause.f [] (pinsC n1) (cellsC n2) [] [] 0 [] [] (latsC l3) [] l = some ⟨(clauseB (pinsC n1) (cellsC n2) (latsC l3) l).toArray⟩ := by
  unfold lift_Clause.f
  have hf : clauseFit (pinsC n1) (cellsC n2) (latsC l3) l = true := by
    unfold clauseFit
    rw [shortP_C, shortC_C, smallC_C, latsC_wf l3 h3, decide_eq_true hl]; rfl
  rw [if_pos hf]
theorem lits_f (n1 : List S111) (n2 : List S94) (l3 : List S98) (h3 : ∀ p ∈ l3, (Lit.int .i64 p.f4).wf = true) (s : ByteArray) (hs : s.size < 4294967281) :
    lift_Lits.f [] (pinsC n1) (cellsC n2) [] [] 0 [] [] (latsC l3) [] s = some (litsB (pinsC n1) (cellsC n2) (latsC l3) s) := by
  unfold lift_Lits.f
  have hf : litsFit (pinsC n1) (cellsC n2) (latsC l3) s = true := by
    unfold litsFit
    rw [shortP_C, shortC_C, smallC_C, latsC_wf l3 h3, decide_eq_true (show (latsC l3).length ≤ 1000000 by have := latsC_len l3; omega), decide_eq_true hs]; rfl
  rw [if_pos hf]
theorem LiftReads (k : Nat) (hk : 2000 ≤ k) (n0 : List S96) (n1 : List S111) (n2 : List S94) (n3 : List S73) (n4 : List S111) (a : Int) (l1 : List S201) (l2 : List S202) (l3 : List S98) (l4 : List S204) (tr : List (List Int)) (l : List Int) (s : ByteArray)
    (h3 : ∀ p ∈ l3, (Lit.int .i64 p.f4).wf = true) (h : ∀ y ∈ l, (Lit.int .i64 y).wf = true) : proofmarklaw27_LiftReads.f k n0 n1 n2 n3 n4 a l1 l2 l3 l4 tr l s = some true := by
  unfold proofmarklaw27_LiftReads.f
  rw [head_from k (by omega), fit27_f n0 n1 n2 n3 n4 a l1 l2 l3 l4 tr l s k (by omega)]
  simp only [Option.bind_some]
  have e : l.take (min l.length 30) = l.take 30 := by rw [List.take_eq_take_iff]; omega
  rw [show (30 : Int) = ((30 : Nat) : Int) from rfl, mn_nat, if_pos (by omega), if_pos (by omega), Int.toNat_natCast, e]
  have hl : (l.take 30).length ≤ 30 := by simp; omega
  have hw : ∀ y ∈ l.take 30, (Lit.int .i64 y).wf = true := fun y hy => h y (List.mem_of_mem_take hy)
  generalize l.take 30 = q at hl hw ⊢
  have hlen := clause_len (pinsC n1) (cellsC n2) (latsC l3) q (fun x hx => by have := cellsC_size n2 x hx; omega) (latsC_wf l3 h3)
  have hll := latsC_len l3
  rw [clause_f n1 n2 l3 h3 q (by omega)]
  simp only [Option.bind_some]
  have hsz : (⟨(clauseB (pinsC n1) (cellsC n2) (latsC l3) q).toArray⟩ : ByteArray).size < 4294967281 := by
    show (clauseB (pinsC n1) (cellsC n2) (latsC l3) q).toArray.size < _
    rw [List.size_toArray]; omega
  rw [lits_f n1 n2 l3 h3 _ hsz]
  simp only [Option.bind_some]
  -- the second half
  have hj : proofmarklaw27_LiftReads.j0 k true false n0 n1 n2 n3 n4 a l1 l2 l3 l4 tr l s [] (pinsC n1) (cellsC n2) [] [] 0 [] [] (latsC l3) [] = some true := by
    obtain ⟨k, rfl⟩ : ∃ q, k = q + 1 := ⟨k - 1, by omega⟩
    simp only [proofmarklaw27_LiftReads.j0]
    rw [if_neg (by decide), show (2000 : Int) = ((2000 : Nat) : Int) from rfl, mn_nat, if_pos (by omega), if_pos (by omega), Int.toNat_natCast]
    have hu : s.extract 0 (min s.size 2000) = cutU s := rfl
    rw [hu]
    have hus := cutU_size s
    generalize cutU s = u at hus
    rw [lits_f n1 n2 l3 h3 u (by omega)]
    simp only [Option.bind_some, if_true]
    have ht := lits_text (pinsC n1) (cellsC n2) (latsC l3) (by omega) u
    by_cases hb : (litsB (pinsC n1) (cellsC n2) (latsC l3) u).2 = true
    · rw [if_pos hb]
      have := ht.1 hb
      rw [clause_f n1 n2 l3 h3 _ (by omega)]
      simp only [Option.bind_some]
      rw [if_pos (by rw [ByteArray.toList_eq, ByteArray.toList_eq, this.1])]
    · rw [if_neg hb, ht.2 (Bool.eq_false_iff.2 hb)]; rfl
  by_cases hne : (⟨(clauseB (pinsC n1) (cellsC n2) (latsC l3) q).toArray⟩ : ByteArray).toList = []
  · rw [if_pos hne]; exact hj
  · rw [if_neg hne]
    have hb := lits_back (pinsC n1) (cellsC n2) (latsC l3) q (by omega) hw ⟨(clauseB (pinsC n1) (cellsC n2) (latsC l3) q).toArray⟩ (by simp) (by rwa [ByteArray.toList_eq] at hne)
    rw [hb, if_pos rfl, sameInts_f q (by omega) k (by omega)]
    simp only [Option.bind_some, Bool.not_true]
    exact hj
end Go.Proofs.YtmfekngjhiofaaaDoor.Q
