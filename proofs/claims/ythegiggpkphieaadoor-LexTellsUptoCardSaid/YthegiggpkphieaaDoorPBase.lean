/-
  Plain: what all seven laws of lex use: the document's examples, few, Same.
-/
import Derived.Test.YthegiggpkphieaaDoorQx4
import Derived.Test.YthegiggpkphieaaDoorQx3
import Derived.Test.YthegiggpkphieaaDoorQx4
set_option linter.unusedVariables false
set_option linter.unusedSimpArgs false
namespace Go.Proofs.YthegiggpkphieaaDoor.Q
open Go.NumPure Go.RowKit Go.Proofs.YthegiggpkphieaaDoorW.PrintWords Go.Proofs.YthegiggpkphieaaDoorW.PrintLast Go.Proofs.YthegiggpkphieaaDoorW.PrintMore

theorem lex_small (s : ByteArray) (hs : s.size ≤ 20000) : lex_Lex.f s = some (lexF [] s.data.toList 0) := by unfold lex_Lex.f; rw [if_neg (by omega)]
theorem rd_at (l : List S33) (i : Nat) (h : i < l.length) : rd_T33 l (i : Int) = l[i] := by simp [rd_T33, h]
theorem wrap_nat (i : Nat) (h : i < 4611686018427387904) : wrap64 ((i : Int) + 1) = ((i + 1 : Nat) : Int) := by unfold wrap64; omega
/-- A row is the same as itself. -/
theorem same_l0 (l : List S33) (hl : l.length < 4611686018427387904) (d : Nat) : ∀ (k i : Nat), i ≤ l.length → l.length - i = d → d < k → proofmarkref01_Same.l0 k l l (i : Int) = some true := by
  induction d with
  | zero =>
    intro k i h1 h2 h3
    obtain ⟨k, rfl⟩ : ∃ m, k = m + 1 := ⟨k - 1, by omega⟩
    simp only [proofmarkref01_Same.l0]
    rw [if_neg (by omega)]
  | succ d ih =>
    intro k i h1 h2 h3
    obtain ⟨k, rfl⟩ : ∃ m, k = m + 1 := ⟨k - 1, by omega⟩
    simp only [proofmarkref01_Same.l0]
    rw [if_pos (by omega), if_pos (by omega), if_pos (by omega), if_neg (by simp), wrap_nat i (by omega)]
    exact ih k (i + 1) (by omega) (by omega) (by omega)
theorem same_self (l : List S33) (hl : l.length < 4611686018427387904) (k : Nat) (hk : l.length < k) : proofmarkref01_Same.f k l l = some true := by
  unfold proofmarkref01_Same.f
  rw [if_pos rfl]
  exact same_l0 l hl l.length k 0 (by omega) (by omega) hk
theorem head_true (k : Nat) (hk : 4 ≤ k) : proofmarklaw01_head.f k = some true := by
  have h1 : lex_Lex.f (⟨#[97, 60, 61, 49, 50, 47, 47, 32, 120]⟩ : ByteArray) = some ([⟨1, ⟨#[97]⟩, 0, 0⟩, ⟨3, ⟨#[60, 61]⟩, 0, 1⟩, ⟨2, ⟨#[49, 50]⟩, 12, 3⟩], 0, 0) := by rw [lex_small _ (by decide)]; rfl
  have h2 : lex_Lex.f (⟨#[120, 32, 48, 55]⟩ : ByteArray) = some ([], 10, 2) := by rw [lex_small _ (by decide)]; rfl
  have h3 : lex_Lex.f (⟨#[120, 32, 33, 32, 121]⟩ : ByteArray) = some ([], 10, 2) := by rw [lex_small _ (by decide)]; rfl
  have h4 : lex_Text.f [⟨1, ⟨#[97]⟩, 0, 0⟩, ⟨3, ⟨#[60, 61]⟩, 0, 1⟩, ⟨2, ⟨#[49, 50]⟩, 12, 3⟩] = some ⟨#[97, 32, 60, 61, 32, 49, 50]⟩ := by unfold lex_Text.f; rw [if_pos ⟨by decide, by decide⟩]; rfl
  unfold proofmarklaw01_head.f
  rw [h1, h2, h3]
  simp only [Option.bind_some]
  rw [same_self _ (by decide) k (by simp; omega)]
  simp only [Option.bind_some, if_true]
  rw [h4]
  simp only [Option.bind_some]
  rw [ByteArray.toList_eq]
  rfl
theorem few_cut (s : ByteArray) : ∃ t : ByteArray, proofmarklaw01_few.f s = some t ∧ t.size ≤ 2000 := by
  refine ⟨s.extract 0 (mn (s.size : Int) 2000).toNat, ?_, ?_⟩
  · unfold proofmarklaw01_few.f
    rw [if_pos (by unfold mn; omega), if_pos (by unfold mn; omega)]
  · simp; unfold mn; omega
/-- the tokens' places and numbers, as the machine's -/
theorem lexF_ok (l : List UInt8) (p : Nat) (h : (LexP.lxA l p).2 = none) : lexF [] l p = ((LexP.lxA l p).1.map toS, 0, 0) := by unfold lexF; rw [h]; simp
theorem lexF_bad (l : List UInt8) (p q : Nat) (h : (LexP.lxA l p).2 = some q) : lexF [] l p = ([], 10, (q : Int)) := by unfold lexF; rw [h]
theorem lxA_count : ∀ (n : Nat) (l : List UInt8) (a : Nat), l.length ≤ n → (LexP.lxA l a).1.length ≤ l.length
  | 0, l, a, h => by
    have : l = [] := List.eq_nil_of_length_eq_zero (by omega)
    subst this; simp [LexP.lxA_nil]
  | n + 1, l, a, h => by
    by_cases hl : l = []
    · subst hl; simp [LexP.lxA_nil]
    rw [LexP.lxA_step l a hl]
    cases hs : LexP.step l with
    | err => simp
    | skip m =>
      have hm := LexP.step_skip hs
      have := lxA_count n (l.drop m) (a + m) (by simp; omega)
      simp at this ⊢; omega
    | tok k x v =>
      obtain ⟨p1, p2, p3⟩ := LexP.step_tok hs
      have p4 := p1.length_le
      have := lxA_count n (l.drop x.length) (a + x.length) (by simp; omega)
      simp at this ⊢; omega
end Go.Proofs.YthegiggpkphieaaDoor.Q
