/-
  Plain: LexCuts.
-/
import Derived.Test.YthegiggpkphieaaDoorPBase2
import Derived.Test.YthegiggpkphieaaDoorQx9
set_option linter.unusedVariables false
set_option linter.unusedSimpArgs false
namespace Go.Proofs.YthegiggpkphieaaDoor.Q
open Go.NumPure Go.RowKit Go.Proofs.YthegiggpkphieaaDoorW.PrintWords Go.Proofs.YthegiggpkphieaaDoorW.PrintLast Go.Proofs.YthegiggpkphieaaDoorW.PrintMore

theorem cuts_out (k : Nat) (a : Int) (t : ByteArray) (l : List S33) : proofmarklaw01_LexCuts.j0 (k + 1) a true t l true = some true := by
  unfold proofmarklaw01_LexCuts.j0; dsimp only; rw [if_pos (by first | rfl | trivial)]
theorem LexCuts : proofmarklaw01_LexCuts.Pure := by
  intro a0 a1 _ _
  obtain ⟨t, ht, hsz⟩ := few_cut a0
  refine ⟨5000, ?_⟩
  unfold proofmarklaw01_LexCuts.f
  rw [head_true _ (by omega), ht]
  simp only [Option.bind_some]
  rw [lex_small t (by omega)]
  simp only [Option.bind_some]
  have hlt : t.data.toList.length = t.size := by simp
  cases hr : (LexP.lxA t.data.toList 0).2 with
  | some q => rw [lexF_bad _ _ q hr, if_neg (by show ¬ ((10 : Int) = 0); decide)]; exact cuts_out _ _ _ _
  | none =>
    rw [lexF_ok _ _ hr, if_pos (by first | rfl | trivial)]
    have hc := lxA_count t.data.toList.length t.data.toList 0 (Nat.le_refl _)
    obtain ⟨T, hT⟩ : ∃ T, T = (LexP.lxA t.data.toList 0).1 := ⟨_, rfl⟩
    rw [← hT] at hc ⊢
    have hTl : (T.map toS).length = T.length := List.length_map ..
    show (if a1 < 0 then proofmarklaw01_LexCuts.j0 5000 a1 true t (T.map toS) true else proofmarklaw01_LexCuts.j0 5000 a1 true t (T.map toS) (decide (a1 ≥ ((T.map toS).length : Int)))) = some true
    by_cases h0 : a1 < 0
    · rw [if_pos h0]; exact cuts_out _ _ _ _
    rw [if_neg h0]
    by_cases h1 : a1 ≥ ((T.map toS).length : Int)
    · rw [decide_eq_true h1]; exact cuts_out _ _ _ _
    rw [decide_eq_false h1]
    obtain ⟨n, rfl⟩ : ∃ n : Nat, a1 = (n : Int) := ⟨a1.toNat, by omega⟩
    have hn : n < T.length := by omega
    obtain ⟨x, hx⟩ : ∃ x, x = T[n] := ⟨_, rfl⟩
    have hg : (LexP.lxA t.data.toList 0).1[n]? = some x := by rw [← hT, List.getElem?_eq_getElem hn, hx]
    have hpl := pos_le t.data.toList x (by rw [← hT, hx]; exact List.getElem_mem _)
    obtain ⟨_, _, c3, c4⟩ := LexP.lxA_cut t.data.toList.length t.data.toList 0 (Nat.le_refl _) n x.pos (.inl ⟨x, hg, rfl⟩)
    rw [Nat.sub_zero, ← hT] at c3
    rw [Nat.sub_zero, ← hT, hr, LexP.lxA_at] at c4
    have c5 : (LexP.lxA (t.data.toList.drop x.pos) 0).1.map (LexP.mv x.pos) = T.drop n := congrArg Prod.fst c4
    have c6 : (LexP.lxA (t.data.toList.drop x.pos) 0).2 = none := by
      have := congrArg Prod.snd c4
      simp only at this
      cases hy : (LexP.lxA (t.data.toList.drop x.pos) 0).2 with
      | none => rfl
      | some z => rw [hy] at this; cases this
    have hrd : (rd_T33 (T.map toS) (n : Int)).f3 = (x.pos : Int) := by
      rw [rd_at _ _ (by omega), List.getElem_map, ← hx]; rfl
    have g0 : (0 : Int) ≤ (n : Int) := by omega
    have g1 : (n : Int) < ((T.map toS).length : Int) := by omega
    have g2 : (n : Int) ≤ ((T.map toS).length : Int) := by omega
    have g3 : ¬ ((x.pos : Int) < 0) := by omega
    have g4 : decide ((x.pos : Int) > (t.size : Int)) = false := decide_eq_false (by omega)
    have g5 : (0 : Int) ≤ (x.pos : Int) := by omega
    have g6 : (x.pos : Int) ≤ (t.size : Int) := by omega
    show proofmarklaw01_LexCuts.j0 (4998 + 1 + 1) (n : Int) true t (T.map toS) false = _
    have hk : 4000 < 4998 := by omega
    generalize (4998 : Nat) = k at hk
    unfold proofmarklaw01_LexCuts.j0
    dsimp only
    rw [if_neg (by decide), if_pos g0, if_pos g1, hrd, if_neg g3, g4]
    unfold proofmarklaw01_LexCuts.j1
    dsimp only
    have e1 : (LexP.lxA (t.extract 0 x.pos).data.toList 0) = (T.take n, none) := by rw [ext_take, c3]
    rw [if_neg (by decide), if_pos g5, if_pos g6, Int.toNat_natCast, lex_small _ (by rw [ByteArray.size_extract]; omega), Option.bind_some, lex_small _ (by rw [ByteArray.size_extract]; omega), Option.bind_some,
      lexF_ok _ _ (by rw [e1]), lexF_ok _ _ (by rw [ext_drop]; exact c6), if_pos (by first | rfl | trivial), if_pos (by first | rfl | trivial), if_pos (by first | rfl | trivial), if_pos g0, if_pos g2, Int.toNat_natCast, e1]
    show ((proofmarkref01_Same.f k ((T.take n).map toS) ((T.map toS).take n)).bind fun t238 => _) = _
    rw [List.map_take, same_self _ (by rw [List.length_take]; omega) _ (by rw [List.length_take]; omega), Option.bind_some, if_pos (by first | rfl | trivial)]
    have hcd := lxA_count (t.data.toList.drop x.pos).length (t.data.toList.drop x.pos) 0 (Nat.le_refl _)
    rw [List.length_drop] at hcd
    unfold proofmarkref01_Moved.f
    rw [ext_drop, if_pos (by rw [List.length_map]; omega), Option.bind_some, moved_rows _ _ (fun z hz => by have := pos_le _ z hz; rw [List.length_drop] at this; omega), c5, List.map_drop, same_self _ (by rw [List.length_drop]; omega) _ (by rw [List.length_drop]; omega)]
    rfl
end Go.Proofs.YthegiggpkphieaaDoor.Q
