/-
  Plain: LexTells, for tokens of bounded bulk.
-/
import Derived.Test.YthegiggpkphieaaDoorPRef
import Derived.Test.YthegiggpkphieaaDoorQx6
set_option linter.unusedVariables false
set_option linter.unusedSimpArgs false
namespace Go.Proofs.YthegiggpkphieaaDoor.Q
open Go.NumPure Go.RowKit Go.Proofs.YthegiggpkphieaaDoorW.PrintWords Go.Proofs.YthegiggpkphieaaDoorW.PrintLast Go.Proofs.YthegiggpkphieaaDoorW.PrintMore

def sizes (l : List S33) : Nat := (l.map (·.f1.size)).sum
theorem sizes_take : ∀ (l : List S33) (n : Nat), sizes (l.take n) ≤ sizes l
  | [], n => by simp [sizes]
  | x :: l, 0 => by simp [sizes]
  | x :: l, n + 1 => by have := sizes_take l n; simp [sizes] at this ⊢; omega
theorem textB_len : ∀ (l : List S33), (textB l).length ≤ sizes l + l.length
  | [] => by simp [textB, LexP.joinB]
  | [x] => by
    show (x.f1.data.toList).length ≤ _
    simp [sizes]
  | x :: y :: r => by
    have := textB_len (y :: r)
    show (x.f1.data.toList ++ 32 :: textB (y :: r)).length ≤ _
    simp [sizes] at this ⊢; omega
theorem text_l0 (l : List S33) (hl : l.length ≤ 1048576) (hs : sizes l ≤ 1048576) (d : Nat) : ∀ (k i : Nat) (acc : ByteArray), i ≤ l.length → l.length - i = d → d < k → acc.data.toList = textB (l.take i) →
    proofmarkref01_Text.l0 k l acc (i : Int) = some ⟨(textB l).toArray⟩ := by
  induction d with
  | zero =>
    intro k i acc h1 h2 h3 h4
    obtain ⟨k, rfl⟩ : ∃ j, k = j + 1 := ⟨k - 1, by omega⟩
    simp only [proofmarkref01_Text.l0]
    rw [List.take_of_length_le (by omega)] at h4
    rw [if_neg (by omega), ← h4]
  | succ d ih =>
    intro k i acc h1 h2 h3 h4
    obtain ⟨k, rfl⟩ : ∃ j, k = j + 1 := ⟨k - 1, by omega⟩
    have hi : i < l.length := by omega
    have hacc : acc.size ≤ 2097152 := by
      have e : acc.data.toList.length = acc.size := by simp
      have := textB_len (l.take i)
      have h5 := sizes_take l i
      rw [h4] at e
      rw [List.length_take] at this
      omega
    have hx : (l[i].f1).size ≤ 1048576 := by
      have : ∀ (l : List S33) (i : Nat) (h : i < l.length), l[i].f1.size ≤ sizes l := by
        intro l
        induction l with
        | nil => intro i h; simp at h
        | cons x l ihl =>
          intro i h
          cases i with
          | zero => simp [sizes]
          | succ i => have := ihl i (by simpa using h); simp [sizes] at this ⊢; omega
      exact Nat.le_trans (this l i hi) hs
    have hsn : textB (l.take (i + 1)) = if i = 0 then l[i].f1.data.toList else textB (l.take i) ++ 32 :: l[i].f1.data.toList := by
      unfold textB
      rw [List.take_add_one, List.getElem?_eq_getElem hi, Option.toList_some, List.map_append, List.map_cons, List.map_nil, LexP.joinB_snoc]
      by_cases h0 : i = 0
      · rw [if_pos h0, if_pos (by rw [h0]; rfl)]
      · rw [if_neg h0, if_neg (by intro hh; have := congrArg List.length hh; rw [List.length_map, List.length_take] at this; rw [List.length_nil] at this; omega)]
    have s1 : (acc ++ (⟨#[32]⟩ : ByteArray)).size = acc.size + 1 := by rw [ByteArray.size_append]; rfl
    simp only [proofmarkref01_Text.l0]
    rw [if_pos (by omega)]
    by_cases h0 : i = 0
    · rw [if_neg (by omega), if_pos (by omega), rd_at l i hi, if_pos (by omega), wrap_nat _ (by omega)]
      refine ih k (i + 1) _ (by omega) (by omega) (by omega) ?_
      have e0 : l.take i = [] := by rw [h0]; rfl
      rw [hsn, if_pos h0, app_list, h4, e0]
      rfl
    · rw [if_pos (by omega), if_pos (by omega), if_pos (by omega), rd_at l i hi, s1, if_pos (by omega), wrap_nat _ (by omega)]
      refine ih k (i + 1) _ (by omega) (by omega) (by omega) ?_
      rw [hsn, if_neg h0, app_list, app_list, h4]
      simp
theorem ref_text (l : List S33) (hl : l.length ≤ 1048576) (hs : sizes l ≤ 1048576) (k : Nat) (hk : 1048577 < k) : proofmarkref01_Text.f k l = some ⟨(textB l).toArray⟩ := by
  unfold proofmarkref01_Text.f
  rw [show (0 : Int) = ((0 : Nat) : Int) from rfl]
  exact text_l0 l hl hs l.length k 0 _ (by omega) (by omega) (by omega) rfl
theorem lex_text (l : List S33) (hl : l.length ≤ 1048576) (hs : sizes l ≤ 1048576) : lex_Text.f l = some ⟨(textB l).toArray⟩ := by
  have := textB_len l
  unfold lex_Text.f
  rw [if_pos ⟨by omega, by omega⟩]
theorem LexTells (a0 : ByteArray) (l1 : List S33) (hl : l1.length ≤ 1048576) (hs : sizes l1 ≤ 1048576) : ∃ k, proofmarklaw01_LexTells.f k a0 l1 = some true := by
  obtain ⟨t, ht, hsz⟩ := few_cut a0
  obtain ⟨k, hk⟩ : ∃ k : Nat, k = 1100000 := ⟨_, rfl⟩
  refine ⟨k, ?_⟩
  unfold proofmarklaw01_LexTells.f
  rw [head_true _ (by omega), ht]
  simp only [Option.bind_some]
  rw [lex_small t (by omega), ref_lex t hsz k (by omega)]
  simp only [Option.bind_some]
  have hR : (lexF [] t.data.toList 0).1.length ≤ 2000 := by
    unfold lexF
    have := lxA_count t.data.toList.length t.data.toList 0 (Nat.le_refl _)
    have e : t.data.toList.length = t.size := by simp
    cases (LexP.lxA t.data.toList 0).2 with
    | none => simp at this ⊢; omega
    | some q => simp
  have go : ∀ l : List S33, l.length ≤ 1048576 → sizes l ≤ 1048576 → ((lex_Text.f l).bind fun x => (proofmarkref01_Text.f k l).bind fun y => some (x.toList == y.toList)) = some true := by
    intro l h1 h2
    rw [lex_text l h1 h2, ref_text l h1 h2 k (by omega), Option.bind_some, Option.bind_some]; simp
  rw [same_self _ (by omega) k (by omega)]
  simp only [Option.bind_some]
  by_cases h : (l1.length : Int) > 300
  · rw [if_pos h, if_pos (by omega), if_pos trivial, if_pos trivial, if_pos trivial, if_pos trivial]
    exact go _ (by rw [List.length_take]; omega) (Nat.le_trans (sizes_take _ _) hs)
  · rw [if_neg h, if_pos trivial, if_pos trivial, if_pos trivial, if_pos trivial]
    exact go _ hl hs
end Go.Proofs.YthegiggpkphieaaDoor.Q
