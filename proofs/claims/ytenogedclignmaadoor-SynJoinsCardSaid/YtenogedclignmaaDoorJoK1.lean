/-
  HELPER.
-/
import Derived.Test.YtenogedclignmaaDoorPlK1
import Derived.Test.YtenogedclignmaaDoorPlKA
import Derived.Test.YtenogedclignmaaDoorJoWords
import Derived.Lib.AtoiAllCases
import Derived.Test.YtenogedclignmaaDoorPlK0
set_option linter.unusedSimpArgs false
set_option linter.unusedVariables false
namespace LexP
theorem takeWhile_sep {α} (p : α → Bool) (s : α) (m : List α) (hs : p s = false) : ∀ l : List α, (l ++ s :: m).takeWhile p = l.takeWhile p
 | [] => by simp [List.takeWhile_cons, hs]
 | c :: r => by
  by_cases hp : p c = true
  ·simp only [List.cons_append, List.takeWhile_cons, hp, if_true]; rw [takeWhile_sep p s m hs r]
  ·simp [List.takeWhile_cons, hp]
def mv (d : Nat) (t : Tok) : Tok := { t with pos := t.pos + d }
theorem lxA_move : ∀ (n : Nat) (l : List UInt8) (a d : Nat), l.length ≤ n → lxA l (a + d) = ((lxA l a).1.map (mv d), (lxA l a).2.map (· + d))
 | 0, l, a, d, h => by
  have : l = [] := List.eq_nil_of_length_eq_zero (by omega)
  subst this; rfl
 | n + 1, l, a, d, h => by
  by_cases hl : l = []
  ·subst hl; rfl
  rw [lxA_step l _ hl, lxA_step l a hl]
  cases hs : step l with
  | err => simp
  | skip m =>
   have := step_skip hs
   simp only
   rw [← lxA_move n _ _ d (by simp; omega)]
   congr 1; omega
  | tok k t v =>
   obtain ⟨h1, h2, _⟩ := step_tok hs
   have h3 := h1.length_le
   simp only
   rw [show a + d + t.length = a + t.length + d by omega, lxA_move n _ _ d (by simp; omega)]
   simp [mv]
theorem prefix_sep {x l m : List UInt8} {s : UInt8} (hx : s ∉ x) (h : x <+: l ++ s :: m) : x <+: l := by
 rcases Nat.lt_or_ge l.length x.length with h1 | h1
 ·exfalso
  obtain ⟨y, hy⟩ := h
  have h2 : (x ++ y)[l.length]? = some s := by rw [hy]; simp
  rw [List.getElem?_append_left h1] at h2
  exact hx (List.mem_of_getElem? h2)
 ·exact List.prefix_of_prefix_length_le h (List.prefix_append _ _) h1
def Sep (s : UInt8) : Prop := s = 10 ∨ s = 32
theorem Sep.plain {s : UInt8} (h : Sep s) : wrd s = false ∧ dig s = false ∧ (∀ x ∈ signs, s ∉ x) ∧ s ≠ 47 ∧ blk s = true := by
 rcases h with rfl | rfl <;> decide
theorem sgn_sep (l m : List UInt8) {s : UInt8} (h : Sep s) : sgn (l ++ s :: m) = sgn l := by
 unfold sgn
 have : ∀ x ∈ signs, x.isPrefixOf (l ++ s :: m) = x.isPrefixOf l := by
  intro x hx
  rw [Bool.eq_iff_iff, List.isPrefixOf_iff_prefix, List.isPrefixOf_iff_prefix]
  exact ⟨prefix_sep (h.plain.2.2.1 x hx), fun hh => hh.trans (List.prefix_append _ _)⟩
 have e : signs.find? (fun x => x.isPrefixOf (l ++ s :: m)) = signs.find? (fun x => x.isPrefixOf l) := by
  have : ∀ L : List (List UInt8), (∀ x ∈ L, x.isPrefixOf (l ++ s :: m) = x.isPrefixOf l) → L.find? (fun x => x.isPrefixOf (l ++ s :: m)) = L.find? (fun x => x.isPrefixOf l) := by
   intro L
   induction L with
   | nil => intro _; rfl
   | cons a L ih =>
    intro hL
    simp only [List.find?_cons]
    rw [hL a (by simp), ih (fun x hx => hL x (by simp [hx]))]
  exact this _ (by assumption)
 rw [e]
theorem number_sep (l m : List UInt8) {s : UInt8} (h : Sep s) : number (l ++ s :: m) = number l := by
 unfold number
 rw [takeWhile_sep _ _ _ h.plain.2.1]
theorem one_sep (l m : List UInt8) {s : UInt8} (h : Sep s) (hl : l ≠ []) : one (l ++ s :: m) = one l := by
 cases l with
 | nil => exact absurd rfl hl
 | cons c r =>
  show (if ltr c then Step.tok 1 ((c :: r ++ s :: m).takeWhile wrd) 0 else if dig c then number (c :: r ++ s :: m) else sgn (c :: r ++ s :: m)) = (if ltr c then Step.tok 1 ((c :: r).takeWhile wrd) 0 else if dig c then number (c :: r) else sgn (c :: r))
  rw [takeWhile_sep _ _ _ h.plain.1, number_sep _ _ h, sgn_sep _ _ h]
theorem step_sep (l m : List UInt8) {s : UInt8} (h : Sep s) (hl : l ≠ []) (hr : s = 10 ∨ ¬ [47, 47].isPrefixOf l = true) : step (l ++ s :: m) = step l := by
 cases l with
 | nil => exact absurd rfl hl
 | cons c r =>
  have e : c :: r ++ s :: m = c :: (r ++ s :: m) := rfl
  rw [e, step_cons, step_cons]
  have h2 : [47, 47].isPrefixOf (c :: (r ++ s :: m)) = [47, 47].isPrefixOf (c :: r) := by
   rw [← e, Bool.eq_iff_iff, List.isPrefixOf_iff_prefix, List.isPrefixOf_iff_prefix]
   exact ⟨prefix_sep (by simp; exact h.plain.2.2.2.1), fun hh => hh.trans (List.prefix_append _ _)⟩
  rw [h2]
  by_cases hs : [47, 47].isPrefixOf (c :: r) = true
  ·rw [if_pos hs, if_pos hs]
   rcases hr with rfl | hr
   ·rw [← e, takeWhile_sep _ _ _ (by decide)]
   ·exact absurd hs hr
  ·rw [if_neg hs, if_neg hs, ← e, one_sep _ _ h (by simp)]
theorem lxA_at (l : List UInt8) (d : Nat) : lxA l d = ((lxA l 0).1.map (mv d), (lxA l 0).2.map (· + d)) := by
 have := lxA_move l.length l 0 d (Nat.le_refl _)
 simpa using this
theorem lxA_join : ∀ (n : Nat) (l : List UInt8) (a : Nat) (m : List UInt8), l.length ≤ n →
  lxA (l ++ 10 :: m) a = match (lxA l a).2 with
   | some p => ((lxA l a).1, some p)
   | none => ((lxA l a).1 ++ (lxA m (a + l.length + 1)).1, (lxA m (a + l.length + 1)).2)
 | n, [], a, m, _ => by
  show lxA (10 :: m) a = _
  rw [lxA_step _ a (by simp)]
  have : step (10 :: m) = .skip 1 := by rw [step_cons]; rfl
  rw [this]
  simp [lxA_nil]
 | 0, c :: r, a, m, h => by simp at h
 | n + 1, c :: r, a, m, h => by
  have hl : c :: r ≠ [] := by simp
  have hst : step (c :: r ++ 10 :: m) = step (c :: r) := step_sep _ _ (.inl rfl) hl (.inl rfl)
  rw [lxA_step _ a (by simp), hst, lxA_step (c :: r) a hl]
  cases hs : step (c :: r) with
  | err => rfl
  | skip k =>
   have hm := step_skip hs
   simp only
   rw [List.drop_append_of_le_length hm.2, lxA_join n _ _ m (by simp at *; omega)]
   have : a + k + ((c :: r).drop k).length + 1 = a + (c :: r).length + 1 := by simp at *; omega
   rw [this]
  | tok k x v =>
   obtain ⟨p1, p2, p3⟩ := step_tok hs
   have p4 := p1.length_le
   simp only
   rw [List.drop_append_of_le_length p4, lxA_join n _ _ m (by simp at *; omega)]
   have : a + x.length + ((c :: r).drop x.length).length + 1 = a + (c :: r).length + 1 := by simp at *; omega
   rw [this]
   cases (lxA ((c :: r).drop x.length) (a + x.length)).2 <;> simp
end LexP
