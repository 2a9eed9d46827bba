/-
  Plain: LexJoins.
-/
import Derived.Test.YthegiggpkphieaaDoorPBase2
import Derived.Test.YthegiggpkphieaaDoorQx10
set_option linter.unusedVariables false
set_option linter.unusedSimpArgs false
namespace Go.Proofs.YthegiggpkphieaaDoor.Q
open Go.NumPure Go.RowKit Go.Proofs.YthegiggpkphieaaDoorW.PrintWords Go.Proofs.YthegiggpkphieaaDoorW.PrintLast Go.Proofs.YthegiggpkphieaaDoorW.PrintMore

theorem LexJoins : proofmarklaw01_LexJoins.Pure := by
  intro a0 a1 _ _
  obtain ⟨x, hx, hxs⟩ := few_cut a0
  obtain ⟨y, hy, hys⟩ := few_cut a1
  refine ⟨5000, ?_⟩
  unfold proofmarklaw01_LexJoins.f
  rw [head_true _ (by omega), hx, hy]
  simp only [Option.bind_some]
  rw [lex_small x (by omega), lex_small y (by omega)]
  simp only [Option.bind_some]
  have s1 : (x ++ (⟨#[10]⟩ : ByteArray)).size = x.size + 1 := by rw [ByteArray.size_append]; rfl
  have s2 : ((x ++ (⟨#[10]⟩ : ByteArray)) ++ y).size = x.size + 1 + y.size := by rw [ByteArray.size_append, s1]
  rw [if_pos (by omega), if_pos (by omega), lex_small _ (by omega), Option.bind_some]
  have hd : ((x ++ (⟨#[10]⟩ : ByteArray)) ++ y).data.toList = x.data.toList ++ 10 :: y.data.toList := by rw [app_list, app_list]; simp
  rw [hd]
  clear hd s1 s2
  have hlx : x.data.toList.length = x.size := by simp
  have hly : y.data.toList.length = y.size := by simp
  generalize x.data.toList = X at *
  generalize y.data.toList = Y at *
  have hj := LexP.lxA_join X.length X 0 Y (Nat.le_refl _)
  have hcx := lxA_count X.length X 0 (Nat.le_refl _)
  have hcy := lxA_count Y.length Y 0 (Nat.le_refl _)
  cases hr : (LexP.lxA X 0).2 with
  | some p =>
    rw [hr] at hj
    rw [lexF_bad X 0 p hr, lexF_bad (X ++ 10 :: Y) 0 p (by rw [hj])]
    rw [if_neg (by show ¬ ((10 : Int) = 0); decide), if_pos (by first | rfl | trivial), if_pos (by first | rfl | trivial), if_pos (by first | rfl | trivial)]
    rfl
  | none =>
    rw [hr] at hj
    simp only at hj
    rw [Nat.zero_add, LexP.lxA_at Y] at hj
    have bx : ∀ z ∈ (LexP.lxA Y 0).1, z.pos + (X.length + 1) < 4611686018427387904 := fun z hz => by have := pos_le Y z hz; omega
    rw [lexF_ok X 0 hr]
    cases hs : (LexP.lxA Y 0).2 with
    | some q =>
      rw [hs] at hj
      obtain ⟨_, c2, _⟩ := LexP.lxA_cut Y.length Y 0 (Nat.le_refl _) (LexP.lxA Y 0).1.length q (.inr ⟨rfl, hs⟩)
      rw [lexF_bad Y 0 q hs, lexF_bad (X ++ 10 :: Y) 0 (q + (X.length + 1)) (by rw [hj]; rfl)]
      have hw : wrap64 ((wrap64 ((q : Int) + (x.size : Int))) + 1) = ((q + (X.length + 1) : Nat) : Int) := by
        rw [wrap_add _ _ (by omega), wrap_nat _ (by omega), hlx]; rfl
      rw [if_pos (by first | rfl | trivial), if_neg (by show ¬ ((10 : Int) = 0); decide), if_pos (by first | rfl | trivial), if_pos (by first | rfl | trivial), if_pos hw.symm]
      rfl
    | none =>
      rw [hs] at hj
      rw [lexF_ok Y 0 hs, lexF_ok (X ++ 10 :: Y) 0 (by rw [hj]; rfl), if_pos (by first | rfl | trivial), if_pos (by first | rfl | trivial)]
      simp only [Option.bind_some]
      have hw : wrap64 ((x.size : Int) + 1) = ((X.length + 1 : Nat) : Int) := by rw [hlx, wrap_nat _ (by omega)]
      have l1 : ((LexP.lxA X 0).1.map toS).length ≤ 2000 := by rw [List.length_map]; omega
      have l2 : ((LexP.lxA Y 0).1.map toS).length ≤ 2000 := by rw [List.length_map]; omega
      rw [if_pos (by show 0 + _ < _; omega), hw]
      unfold proofmarkref01_Moved.f
      rw [if_pos (by omega), Option.bind_some, moved_rows _ _ bx]
      rw [if_pos (by simp only [List.nil_append, List.length_map]; omega), if_pos (by first | rfl | trivial), if_pos (by first | rfl | trivial)]
      have he : (LexP.lxA (X ++ 10 :: Y) 0).1.map toS = [] ++ (LexP.lxA X 0).1.map toS ++ ((LexP.lxA Y 0).1.map (LexP.mv (X.length + 1))).map toS := by
        rw [hj, List.map_append, List.nil_append]
      rw [← he]
      have l3 : ((LexP.lxA (X ++ 10 :: Y) 0).1.map toS).length ≤ 4001 := by
        have := lxA_count (X ++ 10 :: Y).length (X ++ 10 :: Y) 0 (Nat.le_refl _)
        rw [List.length_map]; rw [List.length_append, List.length_cons] at this; omega
      rw [same_self _ (by omega) 5000 (by omega)]
      rfl
end Go.Proofs.YthegiggpkphieaaDoor.Q
