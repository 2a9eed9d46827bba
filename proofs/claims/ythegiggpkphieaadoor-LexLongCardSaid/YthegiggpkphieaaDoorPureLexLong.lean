/-
  Plain: LexLong.
-/
import Derived.Test.YthegiggpkphieaaDoorPBase2
import Derived.Test.YthegiggpkphieaaDoorQx10
set_option linter.unusedVariables false
set_option linter.unusedSimpArgs false
namespace Go.Proofs.YthegiggpkphieaaDoor.Q
open Go.NumPure Go.RowKit Go.Proofs.YthegiggpkphieaaDoorW.PrintWords Go.Proofs.YthegiggpkphieaaDoorW.PrintLast Go.Proofs.YthegiggpkphieaaDoorW.PrintMore

theorem long_l0 (t : ByteArray) (ht : t.size ≤ 2000) (d : Nat) : ∀ (k m : Nat) (x : ByteArray), x.data.toList = List.replicate m 32 → m + 10 * d = 20000 → d + 2100 < k → ∀ (R : List S33 × Int × Int), R = lexF [] t.data.toList 0 →
    proofmarklaw01_LexLong.l0 k true t R.1 R.2.1 x = some true := by
  induction d with
  | zero =>
    intro k m x hx hm hk R hR
    obtain ⟨k, rfl⟩ : ∃ j, k = j + 1 := ⟨k - 1, by omega⟩
    have hxs : x.size = 20000 := by
      have : x.data.toList.length = x.size := by simp
      rw [hx, List.length_replicate] at this; omega
    have hw : wrap64 ((20000 : Int) - (t.size : Int)) = ((20000 - t.size : Nat) : Int) := by unfold wrap64; omega
    unfold proofmarklaw01_LexLong.l0
    rw [if_neg (by omega), hw, if_pos (by omega), if_pos (by omega), Int.toNat_natCast]
    have e1 : (x.extract 0 (20000 - t.size)).data.toList = List.replicate (20000 - t.size) 32 := by
      rw [ext_take, hx, List.take_replicate]; congr 1; omega
    have e2 : (x.extract 0 (20000 - t.size)).size = 20000 - t.size := by rw [ByteArray.size_extract]; omega
    have e3 : (t ++ x.extract 0 (20000 - t.size)).size = 20000 := by rw [ByteArray.size_append, e2]; omega
    have e4 : (t ++ x.extract 0 (20000 - t.size) ++ (⟨#[32]⟩ : ByteArray)).size = 20001 := by rw [ByteArray.size_append, e3]; rfl
    have hlt : t.data.toList.length = t.size := by simp
    have e5 : lex_Lex.f (t ++ x.extract 0 (20000 - t.size)) = some R := by
      rw [lex_small _ (by omega), app_list, e1, hR]
      unfold lexF
      rw [LexP.lxA_spaces _ _ _ _ (Nat.le_refl _)]
    have e6 : lex_Lex.f (t ++ x.extract 0 (20000 - t.size) ++ (⟨#[32]⟩ : ByteArray)) = some ([], 2, 0) := by
      unfold lex_Lex.f; rw [if_pos (by omega)]
    have hRl : R.1.length ≤ 2000 := by
      rw [hR]; unfold lexF
      have := lxA_count t.data.toList.length t.data.toList 0 (Nat.le_refl _)
      cases (LexP.lxA t.data.toList 0).2 with
      | none => simp at this ⊢; omega
      | some q => simp
    rw [if_pos (by rw [e2]; omega), e5, Option.bind_some, if_pos (by rw [e3]; omega), e6, Option.bind_some, if_pos (by first | rfl | trivial), if_pos (by first | rfl | trivial), same_self _ (by omega) _ (by omega), Option.bind_some, if_pos (by first | rfl | trivial), if_pos (by first | rfl | trivial), if_pos (by first | rfl | trivial)]
    rfl
  | succ d ih =>
    intro k m x hx hm hk R hR
    obtain ⟨k, rfl⟩ : ∃ j, k = j + 1 := ⟨k - 1, by omega⟩
    have hxs : x.size = m := by
      have : x.data.toList.length = x.size := by simp
      rw [hx, List.length_replicate] at this; omega
    unfold proofmarklaw01_LexLong.l0
    rw [if_pos (by omega), if_pos (by omega)]
    refine ih k (m + 10) _ ?_ (by omega) (by omega) R hR
    rw [app_list, hx]; exact (List.replicate_append_replicate (n := m) (m := 10) (a := (32 : UInt8)))
theorem LexLong : proofmarklaw01_LexLong.Pure := by
  intro a0 _
  obtain ⟨t, ht, hsz⟩ := few_cut a0
  refine ⟨5000, ?_⟩
  unfold proofmarklaw01_LexLong.f
  rw [head_true _ (by omega), ht]
  simp only [Option.bind_some]
  rw [lex_small t (by omega)]
  simp only [Option.bind_some]
  exact long_l0 t hsz 2000 5000 0 _ rfl (by omega) (by omega) _ rfl
end Go.Proofs.YthegiggpkphieaaDoor.Q
