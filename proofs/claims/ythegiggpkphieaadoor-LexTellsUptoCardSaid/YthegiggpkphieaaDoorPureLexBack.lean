/-
  Plain: LexBack.
-/
import Derived.Test.YthegiggpkphieaaDoorPBase
import Derived.Test.YthegiggpkphieaaDoorQx6
set_option linter.unusedVariables false
set_option linter.unusedSimpArgs false
namespace Go.Proofs.YthegiggpkphieaaDoor.Q
open Go.NumPure Go.RowKit Go.Proofs.YthegiggpkphieaaDoorW.PrintWords Go.Proofs.YthegiggpkphieaaDoorW.PrintLast Go.Proofs.YthegiggpkphieaaDoorW.PrintMore

def lens (T : List LexP.Tok) : Nat := (T.map (·.text.length)).sum
theorem lxA_lens : ∀ (n : Nat) (l : List UInt8) (a : Nat), l.length ≤ n → lens (LexP.lxA l a).1 ≤ l.length
  | 0, l, a, h => by
    have : l = [] := List.eq_nil_of_length_eq_zero (by omega)
    subst this; simp [LexP.lxA_nil, lens]
  | n + 1, l, a, h => by
    by_cases hl : l = []
    · subst hl; simp [LexP.lxA_nil, lens]
    rw [LexP.lxA_step l a hl]
    cases hs : LexP.step l with
    | err => simp [lens]
    | skip m =>
      have hm := LexP.step_skip hs
      have := lxA_lens n (l.drop m) (a + m) (by simp; omega)
      simp at this ⊢; omega
    | tok k x v =>
      obtain ⟨p1, p2, p3⟩ := LexP.step_tok hs
      have p4 := p1.length_le
      have := lxA_lens n (l.drop x.length) (a + x.length) (by simp; omega)
      simp [lens] at this ⊢; omega
theorem joinB_len : ∀ (T : List LexP.Tok), (LexP.joinB (T.map (·.text))).length ≤ lens T + T.length
  | [] => by simp [LexP.joinB, lens]
  | [x] => by simp [LexP.joinB, lens]
  | x :: y :: r => by
    have := joinB_len (y :: r)
    show (x.text ++ 32 :: LexP.joinB ((y :: r).map (·.text))).length ≤ _
    simp [lens] at this ⊢; omega
theorem textB_toS (T : List LexP.Tok) : textB (T.map toS) = LexP.joinB (T.map (·.text)) := by
  unfold textB
  rw [List.map_map]
  congr 1
theorem text_ok (T : List LexP.Tok) (n : Nat) (h1 : T.length ≤ n) (h2 : lens T ≤ n) (hn : n ≤ 1000000) : lex_Text.f (T.map toS) = some ⟨(LexP.joinB (T.map (·.text))).toArray⟩ := by
  have := joinB_len T
  unfold lex_Text.f
  rw [textB_toS, if_pos ⟨by simp; omega, by omega⟩]
theorem alikes_len : ∀ {T M : List LexP.Tok}, LexP.Alikes T M → T.length = M.length
  | [], [], _ => rfl
  | a :: l, b :: m, h => by simp [alikes_len h.2]
  | [], _ :: _, h => h.elim
  | _ :: _, [], h => h.elim
theorem alikes_at : ∀ {T M : List LexP.Tok}, LexP.Alikes T M → ∀ (i : Nat) (h1 : i < T.length) (h2 : i < M.length), LexP.Alike T[i] M[i]
  | [], [], _, i, h1, _ => by simp at h1
  | a :: l, b :: m, h, 0, h1, h2 => h.1
  | a :: l, b :: m, h, i + 1, h1, h2 => by simpa using alikes_at h.2 i (by simpa using h1) (by simpa using h2)
  | [], _ :: _, h, _, _, _ => h.elim
  | _ :: _, [], h, _, _, _ => h.elim
theorem alike_l0 {T M : List LexP.Tok} (h : LexP.Alikes T M) (hl : T.length < 4611686018427387904) (d : Nat) : ∀ (k i : Nat), i ≤ T.length → T.length - i = d → d < k → proofmarkref01_Alike.l0 k (T.map toS) (M.map toS) (i : Int) = some true := by
  have hM := alikes_len h
  induction d with
  | zero =>
    intro k i h1 h2 h3
    obtain ⟨k, rfl⟩ : ∃ m, k = m + 1 := ⟨k - 1, by omega⟩
    simp only [proofmarkref01_Alike.l0]
    rw [if_neg (by simp; omega)]
  | succ d ih =>
    intro k i h1 h2 h3
    obtain ⟨k, rfl⟩ : ∃ m, k = m + 1 := ⟨k - 1, by omega⟩
    have ha := alikes_at h i (by omega) (by omega)
    simp only [proofmarkref01_Alike.l0]
    have e1 : rd_T33 (T.map toS) (i : Int) = toS T[i] := by rw [rd_at _ _ (by simp; omega)]; simp
    have e2 : rd_T33 (M.map toS) (i : Int) = toS M[i] := by rw [rd_at _ _ (by simp; omega)]; simp
    rw [if_pos (by simp; omega), if_pos (by omega), if_pos (by simp; omega), e1, e2, if_pos (by simp [toS, ha.1]), if_pos (by simp only [toS, ha.2.1]), if_pos (by simp [toS, ha.2.2]), wrap_nat i (by omega)]
    exact ih k (i + 1) (by omega) (by omega) (by omega)
theorem alike_true {T M : List LexP.Tok} (h : LexP.Alikes T M) (hl : T.length < 4611686018427387904) (k : Nat) (hk : T.length < k) : proofmarkref01_Alike.f k (T.map toS) (M.map toS) = some true := by
  unfold proofmarkref01_Alike.f
  rw [if_pos (by simp [alikes_len h])]
  exact alike_l0 h hl T.length k 0 (by omega) (by omega) hk

theorem LexBack : proofmarklaw01_LexBack.Pure := by
  intro a0 _
  obtain ⟨t, ht, hsz⟩ := few_cut a0
  refine ⟨3000, ?_⟩
  unfold proofmarklaw01_LexBack.f
  rw [head_true _ (by omega), ht]
  simp only [Option.bind_some]
  rw [lex_small t (by omega)]
  simp only [Option.bind_some]
  have hlen : t.data.toList.length ≤ 2000 := by simpa using hsz
  cases hr : (LexP.lxA t.data.toList 0).2 with
  | some q =>
    rw [lexF_bad _ _ q hr]
    have h0 : lex_Text.f [] = some ⟨#[]⟩ := rfl
    have h1 : lex_Lex.f ⟨#[]⟩ = some ([], 0, 0) := by rw [lex_small _ (by decide)]; rfl
    simp only
    rw [h0]
    simp only [Option.bind_some]
    rw [h1]
    simp only [Option.bind_some]
    rw [if_neg (by decide), if_pos trivial, if_pos (by decide), ByteArray.toList_eq]
    rfl
  | none =>
    rw [lexF_ok _ _ hr]
    simp only
    generalize hT : (LexP.lxA t.data.toList 0).1 = T
    have c1 : T.length ≤ 2000 := by rw [← hT]; exact Nat.le_trans (lxA_count _ _ _ (Nat.le_refl _)) hlen
    have c2 : lens T ≤ 2000 := by rw [← hT]; exact Nat.le_trans (lxA_lens _ _ _ (Nat.le_refl _)) hlen
    have hg : ∀ x ∈ T, LexP.Good x := by rw [← hT]; exact LexP.lxA_good _ _
    rw [text_ok T 2000 c1 c2 (by omega)]
    simp only [Option.bind_some]
    have hj := joinB_len T
    obtain ⟨g1, g2⟩ := LexP.lxA_joinB T 0 hg
    rw [lex_small _ (by show (LexP.joinB (T.map (·.text))).toArray.size ≤ 20000; simp; omega)]
    simp only [Option.bind_some]
    rw [lexF_ok _ _ g1]
    simp only
    rw [if_pos trivial, if_pos trivial, if_pos trivial]
    generalize hM : (LexP.lxA (LexP.joinB (T.map (·.text))) 0).1 = M at g2
    rw [alike_true g2 (by omega) 3000 (by omega)]
    simp only [Option.bind_some, if_true]
    have hx := LexP.Alikes.texts g2
    have : lex_Text.f (M.map toS) = some ⟨(LexP.joinB (T.map (·.text))).toArray⟩ := by
      unfold lex_Text.f
      rw [textB_toS, ← hx, if_pos ⟨by simp [← alikes_len g2]; omega, by omega⟩]
    rw [this]
    simp
end Go.Proofs.YthegiggpkphieaaDoor.Q
