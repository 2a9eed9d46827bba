/-
  HELPER.
-/
import Derived.Test.YtenogedclignmaaDoorPlK1
import Derived.Test.YtenogedclignmaaDoorPlKA
import Derived.Test.YtenogedclignmaaDoorCuWords
import Derived.Lib.AtoiAllCases
import Derived.Test.YtenogedclignmaaDoorPlK0
set_option linter.unusedSimpArgs false
set_option linter.unusedVariables false
namespace LexP
theorem takeWhile_take {α} (p : α → Bool) : ∀ (l : List α) (m : Nat), (l.takeWhile p).length ≤ m → (l.take m).takeWhile p = l.takeWhile p
 | [], m, _ => by simp
 | c :: r, 0, h => by
  by_cases hp : p c = true
  ·simp [List.takeWhile_cons, hp] at h
  ·simp [List.takeWhile_cons, hp]
 | c :: r, m + 1, h => by
  by_cases hp : p c = true
  ·simp only [List.take_succ_cons, List.takeWhile_cons, hp, if_true] at h ⊢
   rw [takeWhile_take p r m (by simpa using h)]
  ·simp [List.takeWhile_cons, hp]
def Step.len : Step → Nat
 | .skip n => n
 | .tok _ t _ => t.length
 | .err => 0
theorem step_len {l : List UInt8} (h : step l ≠ .err) : 1 ≤ (step l).len ∧ (step l).len ≤ l.length := by
 cases hs : step l with
 | skip n => exact step_skip hs
 | tok k t v => exact ⟨(step_tok hs).2.1, (step_tok hs).1.length_le⟩
 | err => exact absurd hs h
theorem prefix_take {α} {t l : List α} {m : Nat} (h : t <+: l) (hm : t.length ≤ m) : t <+: l.take m := by
 obtain ⟨s, rfl⟩ := h
 exact ⟨s.take (m - t.length), by rw [List.take_append, List.take_of_length_le hm]⟩
theorem sgn_take {l : List UInt8} {m : Nat} {k t v} (h : sgn l = .tok k t v) (hm : t.length ≤ m) : sgn (l.take m) = .tok k t v := by
 obtain ⟨rfl, rfl, ht, hp⟩ := sgn_tok h
 unfold sgn at h ⊢
 have : signs.find? (fun x => x.isPrefixOf (l.take m)) = some t := by
  split at h
  ·rename_i x hx
   cases h
   rw [List.find?_eq_some_iff_append] at hx ⊢
   obtain ⟨h1, as1, bs, h2, h3⟩ := hx
   refine ⟨List.isPrefixOf_iff_prefix.2 (prefix_take (List.isPrefixOf_iff_prefix.1 h1) hm), as1, bs, h2, fun a ha => ?_⟩
   have := h3 a ha
   simp only [Bool.not_eq_true', Bool.eq_false_iff, ne_eq, List.isPrefixOf_iff_prefix] at this ⊢
   exact fun hh => this (hh.trans (List.take_prefix _ _))
  ·cases h
 rw [this]
theorem number_take {l : List UInt8} {m : Nat} {k t v} (h : number l = .tok k t v) (hm : t.length ≤ m) : number (l.take m) = .tok k t v := by
 obtain ⟨rfl, rfl, rfl, _⟩ := number_tok h
 unfold number at h ⊢
 rw [takeWhile_take _ _ _ hm]
 exact h
theorem one_take {l : List UInt8} {m : Nat} {k t v} (h : one l = .tok k t v) (hm : t.length ≤ m) : one (l.take m) = .tok k t v := by
 obtain ⟨hp, h1⟩ := one_tok h
 cases l with
 | nil => simp [one] at h
 | cons c r =>
  obtain ⟨m, rfl⟩ : ∃ j, m = j + 1 := ⟨m - 1, by omega⟩
  have e : one ((c :: r).take (m + 1)) = if ltr c then .tok 1 (((c :: r).take (m + 1)).takeWhile wrd) 0 else if dig c then number ((c :: r).take (m + 1)) else sgn ((c :: r).take (m + 1)) := rfl
  rw [e]
  have e0 : one (c :: r) = if ltr c then .tok 1 ((c :: r).takeWhile wrd) 0 else if dig c then number (c :: r) else sgn (c :: r) := rfl
  rw [e0] at h
  by_cases hl : ltr c = true
  ·rw [if_pos hl] at h ⊢
   cases h
   rw [takeWhile_take _ _ _ hm]
  ·rw [if_neg hl] at h ⊢
   by_cases hd : dig c = true
   ·rw [if_pos hd] at h ⊢; exact number_take h hm
   ·rw [if_neg hd] at h ⊢; exact sgn_take h hm
theorem isPrefixOf_take {p l : List UInt8} {m : Nat} (hm : p.length ≤ m) : p.isPrefixOf (l.take m) = p.isPrefixOf l := by
 rw [Bool.eq_iff_iff, List.isPrefixOf_iff_prefix, List.isPrefixOf_iff_prefix]
 exact ⟨fun h => h.trans (List.take_prefix _ _), fun h => prefix_take h hm⟩
theorem step_take {l : List UInt8} {m : Nat} (h : step l ≠ .err) (hm : (step l).len ≤ m) : step (l.take m) = step l := by
 cases l with
 | nil => simp [step] at h
 | cons c r =>
  have hlen := step_len h
  obtain ⟨m, rfl⟩ : ∃ j, m = j + 1 := ⟨m - 1, by omega⟩
  have e : (c :: r).take (m + 1) = c :: r.take m := rfl
  rw [e, step_cons, step_cons]
  rw [step_cons] at h hm
  by_cases hb : blk c = true
  ·rw [if_pos hb, if_pos hb]
  ·rw [if_neg hb, if_neg hb]
   rw [if_neg hb] at h hm
   by_cases hs : [47, 47].isPrefixOf (c :: r) = true
   ·rw [if_pos hs] at hm ⊢
    have h2 : 2 ≤ ((c :: r).takeWhile noEol).length := by
     obtain ⟨x, hx⟩ := List.isPrefixOf_iff_prefix.1 hs
     rw [← hx]
     have e1 : noEol 47 = true := by decide
     simp [List.takeWhile_cons, e1]
    have hm' : ((c :: r).takeWhile noEol).length ≤ m + 1 := hm
    have : [47, 47].isPrefixOf (c :: r.take m) = true := by rw [← e, isPrefixOf_take (by simp; omega)]; exact hs
    rw [if_pos this]
    congr 2
    rw [← e, takeWhile_take _ _ _ hm']
   ·rw [if_neg hs] at h hm ⊢
    have : ¬ [47, 47].isPrefixOf (c :: r.take m) = true := fun hh => hs (by
     rw [← e] at hh
     exact List.isPrefixOf_iff_prefix.2 ((List.isPrefixOf_iff_prefix.1 hh).trans (List.take_prefix _ _)))
    rw [if_neg this, ← e]
    cases ho : one (c :: r) with
    | err => exact absurd ho h
    | skip n => exact absurd ho (one_ne_skip _ _)
    | tok k t v => rw [ho] at hm; exact one_take ho hm
theorem lxA_cut : ∀ (n : Nat) (l : List UInt8) (a : Nat), l.length ≤ n → ∀ (i p : Nat),
  ((∃ t : Tok, (lxA l a).1[i]? = some t ∧ t.pos = p) ∨ (i = (lxA l a).1.length ∧ (lxA l a).2 = some p)) →
  a ≤ p ∧ p ≤ a + l.length ∧ lxA (l.take (p - a)) a = ((lxA l a).1.take i, none) ∧ lxA (l.drop (p - a)) p = ((lxA l a).1.drop i, (lxA l a).2)
 | 0, l, a, h, i, p, ht => by
  have : l = [] := List.eq_nil_of_length_eq_zero (by omega)
  subst this; simp [lxA_nil] at ht
 | n + 1, l, a, h, i, p, ht => by
  by_cases hl : l = []
  ·subst hl; simp [lxA_nil] at ht
  have key : ∀ m, 1 ≤ m → m ≤ l.length → a + m ≤ p → p ≤ a + l.length → (l.take (p - a)).drop m = (l.drop m).take (p - (a + m)) ∧ l.take (p - a) ≠ [] := by
   intro m h1 h2 h3 h4
   refine ⟨?_, fun hh => ?_⟩
   ·rw [List.drop_take]; congr 1; omega
   ·have := congrArg List.length hh
    simp at this; rcases this with h5 | h5
    ·omega
    ·exact hl h5
  rw [lxA_step l a hl] at ht
  rw [lxA_step l a hl]
  cases hs : step l with
  | err =>
   rw [hs] at ht
   simp at ht
   obtain ⟨rfl, rfl⟩ := ht
   refine ⟨Nat.le_refl _, by omega, by simp [lxA_nil], ?_⟩
   simp only [Nat.sub_self, List.drop_zero]
   rw [lxA_step l a hl, hs]
  | skip m =>
   rw [hs] at ht
   have hm := step_skip hs
   obtain ⟨h1, h2, h3, h4⟩ := lxA_cut n (l.drop m) (a + m) (by simp; omega) i p ht
   simp only [List.length_drop] at h2
   have e : (l.drop m).drop (p - (a + m)) = l.drop (p - a) := by rw [List.drop_drop]; congr 1; omega
   obtain ⟨k1, k2⟩ := key m hm.1 hm.2 h1 (by omega)
   refine ⟨by omega, by omega, ?_, by rw [← e]; exact h4⟩
   have hst : step (l.take (p - a)) = step l := step_take (by rw [hs]; simp) (by rw [hs]; simp only [Step.len]; omega)
   rw [lxA_step _ a k2, hst, hs]
   simp only
   rw [k1]; exact h3
  | tok k x v =>
   rw [hs] at ht
   obtain ⟨p1, p2, p3⟩ := step_tok hs
   have p4 := p1.length_le
   cases i with
   | zero =>
    simp at ht
    subst ht
    refine ⟨Nat.le_refl _, by omega, by simp [lxA_nil], ?_⟩
    simp only [Nat.sub_self, List.drop_zero]
    rw [lxA_step l a hl, hs]
   | succ i =>
    simp only [List.getElem?_cons_succ, List.length_cons, Nat.add_right_cancel_iff] at ht
    obtain ⟨h1, h2, h3, h4⟩ := lxA_cut n (l.drop x.length) (a + x.length) (by simp; omega) i p ht
    simp only [List.length_drop] at h2
    have e : (l.drop x.length).drop (p - (a + x.length)) = l.drop (p - a) := by rw [List.drop_drop]; congr 1; omega
    obtain ⟨k1, k2⟩ := key x.length p2 p4 h1 (by omega)
    refine ⟨by omega, by omega, ?_, by rw [← e]; exact h4⟩
    have hst : step (l.take (p - a)) = step l := step_take (by rw [hs]; simp) (by rw [hs]; simp only [Step.len]; omega)
    rw [lxA_step _ a k2, hst, hs]
    simp only
    rw [k1, h3]
    simp
def Good (t : Tok) : Prop := 1 ≤ t.text.length ∧ step t.text = .tok t.kind t.text t.n
theorem lxA_good (l : List UInt8) (a : Nat) : ∀ t ∈ (lxA l a).1, Good t := by
 intro t ht
 obtain ⟨i, hi⟩ := List.getElem?_of_mem ht
 obtain ⟨h1, h2, h3, h4, h5, h6, h7⟩ := lxA_places l.length l a (Nat.le_refl _) i t hi
 have e : t.text = (l.drop (t.pos - a)).take t.text.length := List.prefix_iff_eq_take.1 h4
 refine ⟨h3, ?_⟩
 have := step_take (l := l.drop (t.pos - a)) (m := t.text.length) (by rw [h6]; simp) (by rw [h6]; simp [Step.len])
 rw [← e, h6] at this
 exact this
end LexP
