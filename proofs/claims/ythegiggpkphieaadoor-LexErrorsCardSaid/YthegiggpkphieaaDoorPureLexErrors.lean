/-
  Plain: LexErrors.
-/
import Derived.Test.YthegiggpkphieaaDoorPBase2
import Derived.Test.YthegiggpkphieaaDoorQx10
set_option linter.unusedVariables false
set_option linter.unusedSimpArgs false
namespace Go.Proofs.YthegiggpkphieaaDoor.Q
open Go.NumPure Go.RowKit Go.Proofs.YthegiggpkphieaaDoorW.PrintWords Go.Proofs.YthegiggpkphieaaDoorW.PrintLast Go.Proofs.YthegiggpkphieaaDoorW.PrintMore

theorem LexErrors : proofmarklaw01_LexErrors.Pure := by
  intro a0 _
  obtain ⟨t, ht, hsz⟩ := few_cut a0
  refine ⟨5000, ?_⟩
  unfold proofmarklaw01_LexErrors.f
  rw [head_true _ (by omega), ht]
  simp only [Option.bind_some]
  rw [lex_small t (by omega)]
  simp only [Option.bind_some]
  have hlen : t.data.toList.length = t.size := by simp
  cases hr : (LexP.lxA t.data.toList 0).2 with
  | none =>
    rw [lexF_ok _ _ hr, if_pos (by first | rfl | trivial), if_pos (by first | rfl | trivial)]; rfl
  | some q =>
    rw [lexF_bad _ _ q hr]
    obtain ⟨_, c2, c3, c4⟩ := LexP.lxA_cut t.data.toList.length t.data.toList 0 (Nat.le_refl _) (LexP.lxA t.data.toList 0).1.length q (.inr ⟨rfl, hr⟩)
    simp only [Nat.sub_zero, Nat.zero_add] at c2 c3 c4
    rw [hr, LexP.lxA_at] at c4
    have c5 : (LexP.lxA (t.data.toList.drop q) 0).2 = some 0 := by
      have := congrArg Prod.snd c4
      simp only at this
      cases hx : (LexP.lxA (t.data.toList.drop q) 0).2 with
      | none => rw [hx] at this; cases this
      | some z => rw [hx] at this; simp at this; rw [this]
    have hq : q < t.size := by
      rcases Nat.lt_or_ge q t.size with h | h
      · exact h
      · rw [List.drop_eq_nil_of_le (by omega)] at c5; cases c5
    rw [if_neg (by show ¬ ((10 : Int) = 0); decide), if_pos (by first | rfl | trivial), if_pos (by first | rfl | trivial), if_neg (by show ¬ ((q : Int) < 0); omega)]
    have hd : (decide ((q : Int) ≥ (t.size : Int))) = false := by simp; omega
    show proofmarklaw01_LexErrors.j0 (4999 + 1) true t 10 (q : Int) (decide ((q : Int) ≥ (t.size : Int))) = _
    rw [hd]
    generalize (4999 : Nat) = k
    unfold proofmarklaw01_LexErrors.j0
    dsimp only
    have e1 : (LexP.lxA (t.extract 0 q).data.toList 0).2 = none := by rw [ext_take, c3]
    have e2 : (LexP.lxA (t.extract q t.size).data.toList 0).2 = some 0 := by rw [ext_drop, c5]
    rw [if_neg (by decide), if_pos (by omega), if_pos (by omega), Int.toNat_natCast, lex_small _ (by rw [ByteArray.size_extract]; omega), Option.bind_some, lex_small _ (by rw [ByteArray.size_extract]; omega), Option.bind_some,
      lexF_ok _ _ e1, lexF_bad _ _ 0 e2, if_pos (by first | rfl | trivial), if_pos (by first | rfl | trivial), if_pos (by first | rfl | trivial)]
    rfl
end Go.Proofs.YthegiggpkphieaaDoor.Q
