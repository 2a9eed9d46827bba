/-
  HELPER.
-/
import Derived.Test.YtenogedclignmaaDoorSpPCuts
import Derived.Test.YtenogedclignmaaDoorSpHText
set_option linter.unusedVariables false
set_option linter.unusedSimpArgs false
namespace Go.Proofs.YtenogedclignmaaDoor.Q
open Go.NumPure Go.RowKit Go.Proofs.YtenogedclignmaaDoorW.PrintWords Go.Proofs.YtenogedclignmaaDoorW.PrintLast Go.Proofs.YtenogedclignmaaDoorW.PrintMore
def lens (T : List LexP.Tok) : Nat := (T.map (·.text.length)).sum
theorem lxA_lens : ∀ (n : Nat) (l : List UInt8) (a : Nat), l.length ≤ n → lens (LexP.lxA l a).1 ≤ l.length
  | 0, l, a, h => by
    have : l = [] := List.eq_nil_of_length_eq_zero (by omega)
    subst this; simp [LexP.lxA_nil, lens]
  | n + 1, l, a, h => by
    by_cases hl : l = []
    · subst hl; simp [LexP.lxA_nil, lens]
    rw [LexP.lxA_step l a hl]
    cases hs : LexP.step l with
    | err => simp [lens]
    | skip m =>
      have hm := LexP.step_skip hs
      have := lxA_lens n (l.drop m) (a + m) (by simp; omega)
      simp at this ⊢; omega
    | tok k x v =>
      obtain ⟨p1, p2, p3⟩ := LexP.step_tok hs
      have p4 := p1.length_le
      have := lxA_lens n (l.drop x.length) (a + x.length) (by simp; omega)
      simp [lens] at this ⊢; omega
theorem joinB_len : ∀ (T : List LexP.Tok), (LexP.joinB (T.map (·.text))).length ≤ lens T + T.length
  | [] => by simp [LexP.joinB, lens]
  | [x] => by simp [LexP.joinB, lens]
  | x :: y :: r => by
    have := joinB_len (y :: r)
    show (x.text ++ 32 :: LexP.joinB ((y :: r).map (·.text))).length ≤ _
    simp [lens] at this ⊢; omega
theorem textB_toS (T : List LexP.Tok) : textB (T.map toS) = LexP.joinB (T.map (·.text)) := by
  unfold textB
  rw [List.map_map]
  congr 1
theorem text_ok (T : List LexP.Tok) (n : Nat) (h1 : T.length ≤ n) (h2 : lens T ≤ n) (hn : n ≤ 1000000) : lex_Text.f (T.map toS) = some ⟨(LexP.joinB (T.map (·.text))).toArray⟩ := by
  have := joinB_len T
  unfold lex_Text.f
  rw [textB_toS, if_pos ⟨by simp; omega, by omega⟩]
theorem sg_alikes : ∀ {T M : List LexP.Tok}, LexP.Alikes T M → (T.map toS).map sg = (M.map toS).map sg
  | [], [], _ => rfl
  | a :: l, b :: m, h => by
    simp only [List.map_cons, sg_alikes h.2]
    obtain ⟨h1, h2, h3⟩ := h.1
    unfold sg toS
    rw [h1, h2, h3]
  | [], _ :: _, h => h.elim
  | _ :: _, [], h => h.elim
theorem text_like (t : ByteArray) (ht : t.size ≤ 3000) (hn : (LexP.lxA t.data.toList 0).2 = none) :
    ∃ u : ByteArray, lex_Text.f ((LexP.lxA t.data.toList 0).1.map toS) = some u ∧ u.size ≤ 6000 ∧ (LexP.lxA u.data.toList 0).2 = none ∧ ((LexP.lxA t.data.toList 0).1.map toS).map sg = ((LexP.lxA u.data.toList 0).1.map toS).map sg := by
  have e : t.data.toList.length = t.size := by simp
  have h1 := lxA_count t.data.toList.length t.data.toList 0 (Nat.le_refl _)
  have h2 := lxA_lens t.data.toList.length t.data.toList 0 (Nat.le_refl _)
  have h3 := joinB_len (LexP.lxA t.data.toList 0).1
  obtain ⟨g1, g2⟩ := LexP.lxA_joinB (LexP.lxA t.data.toList 0).1 0 (LexP.lxA_good t.data.toList 0)
  refine ⟨⟨(LexP.joinB ((LexP.lxA t.data.toList 0).1.map (·.text))).toArray⟩, text_ok _ 3000 (by omega) (by omega) (by omega), ?_, ?_, ?_⟩
  · show (LexP.joinB ((LexP.lxA t.data.toList 0).1.map (·.text))).toArray.size ≤ _
    rw [List.size_toArray]; omega
  · exact g1
  · exact sg_alikes g2
theorem fr_at {fs gs : List Wr} (h : FR fs gs) : ∀ (i : Nat) (h1 : i < fs.length) (h2 : i < gs.length), fs[i].1 = gs[i].1 ∧ fs[i].2.length = gs[i].2.length := by
  induction h with
  | nil => intro i h1; simp at h1
  | @cons f g fs gs h0 hs ih =>
    intro i h1 h2
    cases i with
    | zero =>
      refine ⟨h0.1, ?_⟩
      have := (h0.2 (Nat.zero_le _)).1
      show f.2.length = g.2.length
      omega
    | succ i => simpa using ih i (by simpa using h1) (by simpa using h2)
theorem place_at {l r : List Tok} (ho : l.Pairwise fun a b => a.f3 < b.f3) (hr : r <:+ l) {t : Tok} {q : List Tok} (e : r = t :: q) (k : Nat) (hk : k < l.length) : t.f3 = l[k].f3 ↔ k + r.length = l.length := by
  obtain ⟨w, hw⟩ := hr
  have hl : w.length + r.length = l.length := by rw [← hw]; simp
  have hj : w.length < l.length := by rw [← hw, e]; simp
  have ht : l[w.length] = t := by
    have : l[w.length]? = some t := by rw [← hw, e]; simp
    rw [List.getElem?_eq_getElem hj] at this
    exact Option.some.inj this
  have hp := List.pairwise_iff_getElem.1 ho
  constructor
  · intro h
    rcases Nat.lt_trichotomy k w.length with h1 | h1 | h1
    · have := hp k w.length hk hj h1; rw [ht] at this; omega
    · omega
    · have := hp w.length k hj hk h1; rw [ht] at this; omega
  · intro h
    have : k = w.length := by omega
    subst this
    rw [ht]
end Go.Proofs.YtenogedclignmaaDoor.Q
