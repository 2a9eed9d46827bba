/-
  HELPER.
-/
import Derived.Test.YtenogedclignmaaDoorPlK1
import Derived.Test.YtenogedclignmaaDoorPlKA
import Derived.Test.YtenogedclignmaaDoorSpWords
import Derived.Lib.AtoiAllCases
import Derived.Test.YtenogedclignmaaDoorPlK0
set_option linter.unusedSimpArgs false
set_option linter.unusedVariables false
namespace LexP
theorem takeWhile_take {α} (p : α → Bool) : ∀ (l : List α) (m : Nat), (l.takeWhile p).length ≤ m → (l.take m).takeWhile p = l.takeWhile p
 | [], m, _ => by simp
 | c :: r, 0, h => by
  by_cases hp : p c = true
  ·simp [List.takeWhile_cons, hp] at h
  ·simp [List.takeWhile_cons, hp]
 | c :: r, m + 1, h => by
  by_cases hp : p c = true
  ·simp only [List.take_succ_cons, List.takeWhile_cons, hp, if_true] at h ⊢
   rw [takeWhile_take p r m (by simpa using h)]
  ·simp [List.takeWhile_cons, hp]
theorem takeWhile_sep {α} (p : α → Bool) (s : α) (m : List α) (hs : p s = false) : ∀ l : List α, (l ++ s :: m).takeWhile p = l.takeWhile p
 | [] => by simp [List.takeWhile_cons, hs]
 | c :: r => by
  by_cases hp : p c = true
  ·simp only [List.cons_append, List.takeWhile_cons, hp, if_true]; rw [takeWhile_sep p s m hs r]
  ·simp [List.takeWhile_cons, hp]
def Step.len : Step → Nat
 | .skip n => n
 | .tok _ t _ => t.length
 | .err => 0
theorem step_len {l : List UInt8} (h : step l ≠ .err) : 1 ≤ (step l).len ∧ (step l).len ≤ l.length := by
 cases hs : step l with
 | skip n => exact step_skip hs
 | tok k t v => exact ⟨(step_tok hs).2.1, (step_tok hs).1.length_le⟩
 | err => exact absurd hs h
theorem prefix_take {α} {t l : List α} {m : Nat} (h : t <+: l) (hm : t.length ≤ m) : t <+: l.take m := by
 obtain ⟨s, rfl⟩ := h
 exact ⟨s.take (m - t.length), by rw [List.take_append, List.take_of_length_le hm]⟩
theorem sgn_take {l : List UInt8} {m : Nat} {k t v} (h : sgn l = .tok k t v) (hm : t.length ≤ m) : sgn (l.take m) = .tok k t v := by
 obtain ⟨rfl, rfl, ht, hp⟩ := sgn_tok h
 unfold sgn at h ⊢
 have : signs.find? (fun x => x.isPrefixOf (l.take m)) = some t := by
  split at h
  ·rename_i x hx
   cases h
   rw [List.find?_eq_some_iff_append] at hx ⊢
   obtain ⟨h1, as1, bs, h2, h3⟩ := hx
   refine ⟨List.isPrefixOf_iff_prefix.2 (prefix_take (List.isPrefixOf_iff_prefix.1 h1) hm), as1, bs, h2, fun a ha => ?_⟩
   have := h3 a ha
   simp only [Bool.not_eq_true', Bool.eq_false_iff, ne_eq, List.isPrefixOf_iff_prefix] at this ⊢
   exact fun hh => this (hh.trans (List.take_prefix _ _))
  ·cases h
 rw [this]
theorem number_take {l : List UInt8} {m : Nat} {k t v} (h : number l = .tok k t v) (hm : t.length ≤ m) : number (l.take m) = .tok k t v := by
 obtain ⟨rfl, rfl, rfl, _⟩ := number_tok h
 unfold number at h ⊢
 rw [takeWhile_take _ _ _ hm]
 exact h
theorem one_take {l : List UInt8} {m : Nat} {k t v} (h : one l = .tok k t v) (hm : t.length ≤ m) : one (l.take m) = .tok k t v := by
 obtain ⟨hp, h1⟩ := one_tok h
 cases l with
 | nil => simp [one] at h
 | cons c r =>
  obtain ⟨m, rfl⟩ : ∃ j, m = j + 1 := ⟨m - 1, by omega⟩
  have e : one ((c :: r).take (m + 1)) = if ltr c then .tok 1 (((c :: r).take (m + 1)).takeWhile wrd) 0 else if dig c then number ((c :: r).take (m + 1)) else sgn ((c :: r).take (m + 1)) := rfl
  rw [e]
  have e0 : one (c :: r) = if ltr c then .tok 1 ((c :: r).takeWhile wrd) 0 else if dig c then number (c :: r) else sgn (c :: r) := rfl
  rw [e0] at h
  by_cases hl : ltr c = true
  ·rw [if_pos hl] at h ⊢
   cases h
   rw [takeWhile_take _ _ _ hm]
  ·rw [if_neg hl] at h ⊢
   by_cases hd : dig c = true
   ·rw [if_pos hd] at h ⊢; exact number_take h hm
   ·rw [if_neg hd] at h ⊢; exact sgn_take h hm
theorem isPrefixOf_take {p l : List UInt8} {m : Nat} (hm : p.length ≤ m) : p.isPrefixOf (l.take m) = p.isPrefixOf l := by
 rw [Bool.eq_iff_iff, List.isPrefixOf_iff_prefix, List.isPrefixOf_iff_prefix]
 exact ⟨fun h => h.trans (List.take_prefix _ _), fun h => prefix_take h hm⟩
theorem slash2 {c : UInt8} {r : List UInt8} (h : [47, 47].isPrefixOf (c :: r) = true) : c = 47 := by
 obtain ⟨m, hm⟩ := List.isPrefixOf_iff_prefix.1 h
 simp at hm
 exact hm.1.symm
theorem step_take {l : List UInt8} {m : Nat} (h : step l ≠ .err) (hm : (step l).len ≤ m) : step (l.take m) = step l := by
 cases l with
 | nil => simp [step] at h
 | cons c r =>
  have hlen := step_len h
  obtain ⟨m, rfl⟩ : ∃ j, m = j + 1 := ⟨m - 1, by omega⟩
  have e : (c :: r).take (m + 1) = c :: r.take m := rfl
  rw [e, step_cons, step_cons]
  rw [step_cons] at h hm
  by_cases hb : blk c = true
  ·rw [if_pos hb, if_pos hb]
  ·rw [if_neg hb, if_neg hb]
   rw [if_neg hb] at h hm
   by_cases hs : [47, 47].isPrefixOf (c :: r) = true
   ·rw [if_pos hs] at hm ⊢
    have h2 : 2 ≤ ((c :: r).takeWhile noEol).length := by
     obtain ⟨x, hx⟩ := List.isPrefixOf_iff_prefix.1 hs
     rw [← hx]
     have e1 : noEol 47 = true := by decide
     simp [List.takeWhile_cons, e1]
    have hm' : ((c :: r).takeWhile noEol).length ≤ m + 1 := hm
    have : [47, 47].isPrefixOf (c :: r.take m) = true := by rw [← e, isPrefixOf_take (by simp; omega)]; exact hs
    rw [if_pos this]
    congr 2
    rw [← e, takeWhile_take _ _ _ hm']
   ·rw [if_neg hs] at h hm ⊢
    have : ¬ [47, 47].isPrefixOf (c :: r.take m) = true := fun hh => hs (by
     rw [← e] at hh
     exact List.isPrefixOf_iff_prefix.2 ((List.isPrefixOf_iff_prefix.1 hh).trans (List.take_prefix _ _)))
    rw [if_neg this, ← e]
    cases ho : one (c :: r) with
    | err => exact absurd ho h
    | skip n => exact absurd ho (one_ne_skip _ _)
    | tok k t v => rw [ho] at hm; exact one_take ho hm
theorem prefix_sep {x l m : List UInt8} {s : UInt8} (hx : s ∉ x) (h : x <+: l ++ s :: m) : x <+: l := by
 rcases Nat.lt_or_ge l.length x.length with h1 | h1
 ·exfalso
  obtain ⟨y, hy⟩ := h
  have h2 : (x ++ y)[l.length]? = some s := by rw [hy]; simp
  rw [List.getElem?_append_left h1] at h2
  exact hx (List.mem_of_getElem? h2)
 ·exact List.prefix_of_prefix_length_le h (List.prefix_append _ _) h1
def Sep (s : UInt8) : Prop := s = 10 ∨ s = 32
theorem Sep.plain {s : UInt8} (h : Sep s) : wrd s = false ∧ dig s = false ∧ (∀ x ∈ signs, s ∉ x) ∧ s ≠ 47 ∧ blk s = true := by
 rcases h with rfl | rfl <;> decide
theorem sgn_sep (l m : List UInt8) {s : UInt8} (h : Sep s) : sgn (l ++ s :: m) = sgn l := by
 unfold sgn
 have : ∀ x ∈ signs, x.isPrefixOf (l ++ s :: m) = x.isPrefixOf l := by
  intro x hx
  rw [Bool.eq_iff_iff, List.isPrefixOf_iff_prefix, List.isPrefixOf_iff_prefix]
  exact ⟨prefix_sep (h.plain.2.2.1 x hx), fun hh => hh.trans (List.prefix_append _ _)⟩
 have e : signs.find? (fun x => x.isPrefixOf (l ++ s :: m)) = signs.find? (fun x => x.isPrefixOf l) := by
  have : ∀ L : List (List UInt8), (∀ x ∈ L, x.isPrefixOf (l ++ s :: m) = x.isPrefixOf l) → L.find? (fun x => x.isPrefixOf (l ++ s :: m)) = L.find? (fun x => x.isPrefixOf l) := by
   intro L
   induction L with
   | nil => intro _; rfl
   | cons a L ih =>
    intro hL
    simp only [List.find?_cons]
    rw [hL a (by simp), ih (fun x hx => hL x (by simp [hx]))]
  exact this _ (by assumption)
 rw [e]
theorem number_sep (l m : List UInt8) {s : UInt8} (h : Sep s) : number (l ++ s :: m) = number l := by
 unfold number
 rw [takeWhile_sep _ _ _ h.plain.2.1]
theorem one_sep (l m : List UInt8) {s : UInt8} (h : Sep s) (hl : l ≠ []) : one (l ++ s :: m) = one l := by
 cases l with
 | nil => exact absurd rfl hl
 | cons c r =>
  show (if ltr c then Step.tok 1 ((c :: r ++ s :: m).takeWhile wrd) 0 else if dig c then number (c :: r ++ s :: m) else sgn (c :: r ++ s :: m)) = (if ltr c then Step.tok 1 ((c :: r).takeWhile wrd) 0 else if dig c then number (c :: r) else sgn (c :: r))
  rw [takeWhile_sep _ _ _ h.plain.1, number_sep _ _ h, sgn_sep _ _ h]
theorem step_sep (l m : List UInt8) {s : UInt8} (h : Sep s) (hl : l ≠ []) (hr : s = 10 ∨ ¬ [47, 47].isPrefixOf l = true) : step (l ++ s :: m) = step l := by
 cases l with
 | nil => exact absurd rfl hl
 | cons c r =>
  have e : c :: r ++ s :: m = c :: (r ++ s :: m) := rfl
  rw [e, step_cons, step_cons]
  have h2 : [47, 47].isPrefixOf (c :: (r ++ s :: m)) = [47, 47].isPrefixOf (c :: r) := by
   rw [← e, Bool.eq_iff_iff, List.isPrefixOf_iff_prefix, List.isPrefixOf_iff_prefix]
   exact ⟨prefix_sep (by simp; exact h.plain.2.2.2.1), fun hh => hh.trans (List.prefix_append _ _)⟩
  rw [h2]
  by_cases hs : [47, 47].isPrefixOf (c :: r) = true
  ·rw [if_pos hs, if_pos hs]
   rcases hr with rfl | hr
   ·rw [← e, takeWhile_sep _ _ _ (by decide)]
   ·exact absurd hs hr
  ·rw [if_neg hs, if_neg hs, ← e, one_sep _ _ h (by simp)]
def joinB : List (List UInt8) → List UInt8
 | [] => []
 | [x] => x
 | x :: y :: r => x ++ 32 :: joinB (y :: r)
theorem joinB_eq : ∀ (x : List UInt8) (r : List (List UInt8)), joinB (x :: r) = x ++ (r.map (32 :: ·)).flatten
 | x, [] => by simp [joinB]
 | x, y :: r => by
  show x ++ 32 :: joinB (y :: r) = _
  rw [joinB_eq y r]; simp
def Good (t : Tok) : Prop := 1 ≤ t.text.length ∧ step t.text = .tok t.kind t.text t.n
theorem lxA_good (l : List UInt8) (a : Nat) : ∀ t ∈ (lxA l a).1, Good t := by
 intro t ht
 obtain ⟨i, hi⟩ := List.getElem?_of_mem ht
 obtain ⟨h1, h2, h3, h4, h5, h6, h7⟩ := lxA_places l.length l a (Nat.le_refl _) i t hi
 have e : t.text = (l.drop (t.pos - a)).take t.text.length := List.prefix_iff_eq_take.1 h4
 refine ⟨h3, ?_⟩
 have := step_take (l := l.drop (t.pos - a)) (m := t.text.length) (by rw [h6]; simp) (by rw [h6]; simp [Step.len])
 rw [← e, h6] at this
 exact this
theorem Good.noRemark {t : Tok} (h : Good t) : ¬ [47, 47].isPrefixOf t.text = true := by
 intro hp
 have := h.2
 cases ht : t.text with
 | nil => rw [ht] at hp; simp at hp
 | cons c r =>
  rw [ht] at hp this
  rw [step_cons, if_neg (by rw [slash2 hp]; decide), if_pos hp] at this
  cases this
def Alike (a b : Tok) : Prop := a.kind = b.kind ∧ a.text = b.text ∧ a.n = b.n
def Alikes : List Tok → List Tok → Prop
 | [], [] => True
 | a :: l, b :: m => Alike a b ∧ Alikes l m
 | _, _ => False
theorem lxA_joinB : ∀ (l : List Tok) (a : Nat), (∀ t ∈ l, Good t) → (lxA (joinB (l.map (·.text))) a).2 = none ∧ Alikes l (lxA (joinB (l.map (·.text))) a).1
 | [], a, _ => ⟨rfl, trivial⟩
 | [t], a, h => by
  obtain ⟨h1, h2⟩ := h t (by simp)
  have hne : t.text ≠ [] := by intro hh; rw [hh] at h1; simp at h1
  simp only [List.map_cons, List.map_nil, joinB]
  rw [lxA_step _ a hne, h2]
  simp only [List.drop_length, lxA_nil]
  exact ⟨trivial, ⟨rfl, rfl, rfl⟩, trivial⟩
 | t :: u :: r, a, h => by
  obtain ⟨h1, h2⟩ := h t (by simp)
  have hne : t.text ≠ [] := by intro hh; rw [hh] at h1; simp at h1
  have ih := lxA_joinB (u :: r) (a + t.text.length + 1) (fun x hx => h x (by simp at hx ⊢; rcases hx with rfl | hx <;> simp [*]))
  have e : joinB ((t :: u :: r).map (·.text)) = t.text ++ 32 :: joinB ((u :: r).map (·.text)) := rfl
  rw [e]
  have hst : step (t.text ++ 32 :: joinB ((u :: r).map (·.text))) = .tok t.kind t.text t.n := by
   rw [step_sep _ _ (.inr rfl) hne (.inr (h t (by simp)).noRemark), h2]
  rw [lxA_step _ a (by simp), hst]
  simp only
  have hd : (t.text ++ 32 :: joinB ((u :: r).map (·.text))).drop t.text.length = 32 :: joinB ((u :: r).map (·.text)) := by simp
  rw [hd]
  have hs2 : lxA (32 :: joinB ((u :: r).map (·.text))) (a + t.text.length) = lxA (joinB ((u :: r).map (·.text))) (a + t.text.length + 1) := by
   rw [lxA_step _ _ (by simp)]
   have : step (32 :: joinB ((u :: r).map (·.text))) = .skip 1 := by rw [step_cons]; rfl
   rw [this]; rfl
  rw [hs2]
  exact ⟨ih.1, ⟨rfl, rfl, rfl⟩, ih.2⟩
end LexP
