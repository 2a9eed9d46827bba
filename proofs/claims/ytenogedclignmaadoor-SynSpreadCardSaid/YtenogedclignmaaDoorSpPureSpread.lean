/-
  HELPER.
-/
import Derived.Test.YtenogedclignmaaDoorSpPText
import Derived.Test.YtenogedclignmaaDoorSpLSynSpread
set_option linter.unusedVariables false
set_option linter.unusedSimpArgs false
namespace Go.Proofs.YtenogedclignmaaDoor.Q
open Go.NumPure Go.RowKit Go.Proofs.YtenogedclignmaaDoorW.PrintWords Go.Proofs.YtenogedclignmaaDoorW.PrintLast Go.Proofs.YtenogedclignmaaDoorW.PrintMore
def Alk (l m : List Tok) (a b : Flt) : Prop := a.f0 = b.f0 ∧ (a.f0 ≠ 21 → ∀ k (h1 : k < l.length) (h2 : k < m.length), (a.f1 == l[k].f3) = (b.f1 == m[k].f3))
theorem spread_l1 (fs gs : List Flt) (l m : List Tok) (hl : l.length ≤ 20000) (hm : l.length = m.length) (A : List Mdl) (i : Nat) (hi : i < fs.length) (hg : fs.length = gs.length) (ok : Alk l m fs[i] (gs[i]'(by omega))) (d : Nat) : ∀ (k j : Nat), j ≤ l.length → l.length - j = d →
    proofmarklaw02_SynSpread.l1 (k + d + 1) true l m fs gs (i : Int) (j : Int) A A = proofmarklaw02_SynSpread.l0 k true l m fs gs (wrap64 ((i : Int) + 1)) A A := by
  induction d with
  | zero =>
    intro k j h1 h2
    rw [proofmarklaw02_SynSpread.l1, if_neg (by omega)]
  | succ d ih =>
    intro k j h1 h2
    have hj : j < l.length := by omega
    have hw : wrap64 ((j : Int) + 1) = ((j + 1 : Nat) : Int) := by rw [wrap_eq _ (by omega) (by omega)]; omega
    rw [show k + (d + 1) + 1 = (k + d + 1) + 1 by omega, proofmarklaw02_SynSpread.l1, if_pos (by omega), if_pos (by omega), if_pos (by omega), rd_flt fs i hi, rd_flt gs i (by omega), hw]
    by_cases h21 : fs[i].f0 = 21
    · rw [if_pos h21]; exact ih k (j + 1) (by omega) (by omega)
    · rw [if_neg h21, if_pos (by omega), if_pos (by omega), if_pos (by omega), rd_tok l j hj, rd_tok m j (by omega), ok.2 h21 j hj (by omega), if_neg (by simp)]
      exact ih k (j + 1) (by omega) (by omega)
theorem spread_l0 (fs gs : List Flt) (hf : fs.length ≤ 20) (hg : fs.length = gs.length) (l m : List Tok) (hl : l.length ≤ 20000) (hm : l.length = m.length) (A : List Mdl) (ok : ∀ i (h : i < fs.length), Alk l m fs[i] (gs[i]'(by omega))) (d : Nat) : ∀ (k i : Nat), i ≤ fs.length → fs.length - i = d → d * (l.length + 2) < k →
    proofmarklaw02_SynSpread.l0 k true l m fs gs (i : Int) A A = some true := by
  induction d with
  | zero =>
    intro k i h1 h2 h3
    obtain ⟨k, rfl⟩ : ∃ m, k = m + 1 := ⟨k - 1, by omega⟩
    have hc : ¬ ((i : Int) < (fs.length : Int)) := by omega
    rw [proofmarklaw02_SynSpread.l0, if_neg hc, if_pos (by rfl), same_true rfl]
    exact Option.bind_some _ _
  | succ d ih =>
    intro k i h1 h2 h3
    have hi : i < fs.length := by omega
    have h4 : (d + 1) * (l.length + 2) = d * (l.length + 2) + (l.length + 2) := Nat.succ_mul d _
    obtain ⟨k, rfl⟩ : ∃ m, k = m + l.length + 1 + 1 := ⟨k - 2 - l.length, by omega⟩
    have g1 : i + 1 ≤ fs.length := by omega
    have g2 : fs.length - (i + 1) = d := by omega
    have g3 : d * (l.length + 2) < k := by omega
    clear h3 h4
    have hA : (i : Int) < (fs.length : Int) := by omega
    have hB : 0 ≤ (i : Int) := by omega
    have hC : (i : Int) < (gs.length : Int) := by omega
    have hD : i < gs.length := by omega
    rw [proofmarklaw02_SynSpread.l0, if_pos hA, if_pos hB, if_pos hC, rd_flt fs i hi, rd_flt gs i hD, if_pos (ok i hi).1]
    have hz := spread_l1 fs gs l m hl hm A i hi hg (ok i hi) l.length k 0 (Nat.zero_le _) rfl
    have e0 : ((0 : Nat) : Int) = 0 := rfl
    rw [e0] at hz
    have hw : wrap64 ((i : Int) + 1) = ((i + 1 : Nat) : Int) := by rw [wrap_eq _ (by omega) (by omega)]; omega
    rw [hz, hw]
    exact ih k (i + 1) g1 g2 g3
theorem SynSpread : proofmarklaw02_SynSpread.Pure := by
  intro a0 h0
  obtain ⟨t, ht, hs⟩ := few_cut a0
  refine ⟨1000000, ?_⟩
  unfold proofmarklaw02_SynSpread.f
  rw [head_true, ht]
  simp only [Option.bind_some]
  rcases lex_cases t (by omega) with ⟨hn, hx⟩ | ⟨q, hn, hx⟩
  · obtain ⟨u, hu, hus, hun, hsg⟩ := text_like t hs hn
    have hxu := lex_good (s := u) (by omega) hun
    obtain ⟨⟨ms, fs⟩, hp⟩ := prs_some ((LexP.lxA t.data.toList 0).1.map toS)
    obtain ⟨gs, hpu, F⟩ := prs_sg hsg hp
    have hl : ((LexP.lxA t.data.toList 0).1.map toS).length ≤ t.size := tok_count
    have hlm : ((LexP.lxA t.data.toList 0).1.map toS).length = ((LexP.lxA u.data.toList 0).1.map toS).length := by
      simpa using congrArg List.length hsg
    have hfg := fr_len F
    obtain ⟨r1, F1⟩ := modules_fs _ _ 0 [] [] _ (ms, fs) (List.suffix_refl _) (fs_nil _ _) hp
    obtain ⟨r2, F2⟩ := modules_fs _ _ 0 [] [] _ (ms, gs) (List.suffix_refl _) (fs_nil _ _) hpu
    have o1 := tok_order t
    have o2 := tok_order u
    rw [hx]
    simp only [Option.bind_some]
    rw [if_pos trivial, hu]
    simp only [Option.bind_some]
    rw [hxu]
    simp only [Option.bind_some]
    rw [parse_ok hx hp]
    simp only [Option.bind_some]
    rw [parse_ok hxu hpu]
    simp only [Option.bind_some]
    generalize (LexP.lxA t.data.toList 0).1.map toS = l at *
    generalize (LexP.lxA u.data.toList 0).1.map toS = m at *
    have hne : ((l.length : Int) != (m.length : Int)) = false := by rw [hlm]; simp
    rw [if_pos (by rw [List.length_map, List.length_map, hfg]), hne, proofmarklaw02_SynSpread.j0, if_neg (by decide)]
    have hf20 : fs.length ≤ 20 := F1.few
    refine spread_l0 _ _ (by rw [List.length_map]; exact hf20) (by rw [List.length_map, List.length_map, hfg]) l m (by omega) hlm ms ?_ (fs.map (fltW t)).length 999999 0 (Nat.zero_le _) rfl ?_
    · intro i hi
      have hi1 : i < fs.length := by simpa using hi
      have hi2 : i < gs.length := by omega
      obtain ⟨e1, e2⟩ := fr_at F i hi1 hi2
      rw [List.getElem_map, List.getElem_map]
      refine ⟨e1, fun h21 k h1 h2 => ?_⟩
      obtain ⟨g1, g2⟩ := F1.each fs[i] (List.getElem_mem hi1)
      obtain ⟨g3, g4⟩ := F2.each gs[i] (List.getElem_mem hi2)
      have hr1 : fs[i].2 ≠ [] := fun e => by
        rcases g2 with ⟨_, g⟩ | ⟨g, _⟩
        · exact h21 g
        · exact g e
      cases hA : fs[i].2 with
      | nil => exact absurd hA hr1
      | cons a p =>
        cases hB : gs[i].2 with
        | nil => rw [hA, hB] at e2; simp at e2
        | cons b q =>
          unfold fltW
          rw [hA, hB]
          dsimp only
          have q1 := place_at o1 g1 hA k h1
          have q2 := place_at o2 g3 hB k h2
          rw [Bool.eq_iff_iff, beq_iff_eq, beq_iff_eq, q1, q2, e2, hlm]
    · rw [List.length_map]
      have h1 := Nat.mul_le_mul hf20 (show l.length + 2 ≤ 3002 by omega)
      omega
  · rw [hx]
    simp only [Option.bind_some]
    rw [if_neg (by decide)]
end Go.Proofs.YtenogedclignmaaDoor.Q
