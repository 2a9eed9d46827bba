/-
  What the lexer of chapter 01 computes, as plain Lean functions on lists of bytes, and what follows of them: no program in sight.
-/
set_option linter.unusedSimpArgs false
namespace LexP

/-- a digit, a letter (or _), a letter or a digit, a blank -/
def dig (c : UInt8) : Bool := 48 ≤ c.toNat && c.toNat ≤ 57
def ltr (c : UInt8) : Bool := (97 ≤ c.toNat && c.toNat ≤ 122) || (65 ≤ c.toNat && c.toNat ≤ 90) || c.toNat == 95
def wrd (c : UInt8) : Bool := ltr c || dig c
def blk (c : UInt8) : Bool := c.toNat == 32 || c.toNat == 9 || c.toNat == 10
def noEol (c : UInt8) : Bool := !(c.toNat == 10)

def signs : List (List UInt8) := [[60, 61], [61, 61], [33, 61], [40], [41], [123], [125], [60], [62], [91], [93], [58], [59], [44], [61], [38], [124], [94], [126], [43], [45], [42], [63], [46], [39]]

/-- the number that digits spell -/
def push (a : Nat) (c : UInt8) : Nat := 10 * a + (c.toNat - 48)
def numv (a : Nat) : List UInt8 → Nat
  | [] => a
  | c :: r => numv (push a c) r

theorem numv_nil (a : Nat) : numv a [] = a := id rfl
theorem numv_cons (a : Nat) (c : UInt8) (r : List UInt8) : numv a (c :: r) = numv (push a c) r := id rfl

inductive Step where
  | skip (n : Nat)
  | tok (k : Nat) (t : List UInt8) (v : Nat)
  | err
  deriving DecidableEq, Repr

def sgn (l : List UInt8) : Step := match signs.find? (fun x => x.isPrefixOf l) with
  | some x => .tok 3 x 0
  | none => .err

def number (l : List UInt8) : Step :=
  let t := l.takeWhile dig
  if numv 0 t ≤ 65535 ∧ (t.length = 1 ∨ t.head? ≠ some 48) then .tok 2 t (numv 0 t) else .err

/-- what stands at the begin of a text that is not empty, behind blanks and remarks -/
def one (l : List UInt8) : Step := match l with
  | [] => .err
  | c :: _ => if ltr c then .tok 1 (l.takeWhile wrd) 0 else if dig c then number l else sgn l

def step (l : List UInt8) : Step := match l with
  | [] => .err
  | c :: _ => if blk c then .skip 1 else if [47, 47].isPrefixOf l then .skip (l.takeWhile noEol).length else one l

structure Tok where
  kind : Nat
  text : List UInt8
  n : Nat
  pos : Nat
  deriving DecidableEq, Repr

/-- the tokens, and where there is an error -/
def lx : Nat → List UInt8 → Nat → List Tok × Option Nat
  | 0, _, _ => ([], none)
  | _ + 1, [], _ => ([], none)
  | f + 1, c :: r, at_ => match step (c :: r) with
    | .skip n => lx f ((c :: r).drop n) (at_ + n)
    | .tok k t v => ((⟨k, t, v, at_⟩ : Tok) :: (lx f ((c :: r).drop t.length) (at_ + t.length)).1, (lx f ((c :: r).drop t.length) (at_ + t.length)).2)
    | .err => ([], some at_)

def lex (l : List UInt8) : List Tok × Option Nat := lx l.length l 0


theorem takeWhile_le {α} (p : α → Bool) (l : List α) : (l.takeWhile p).length ≤ l.length := (List.takeWhile_prefix p).length_le
theorem takeWhile_pos {α} (p : α → Bool) (c : α) (r : List α) (h : p c = true) : 1 ≤ ((c :: r).takeWhile p).length := by simp [List.takeWhile_cons, h]
theorem takeWhile_take {α} (p : α → Bool) : ∀ (l : List α) (m : Nat), (l.takeWhile p).length ≤ m → (l.take m).takeWhile p = l.takeWhile p
  | [], m, _ => by simp
  | c :: r, 0, h => by
    by_cases hp : p c = true
    · simp [List.takeWhile_cons, hp] at h
    · simp [List.takeWhile_cons, hp]
  | c :: r, m + 1, h => by
    by_cases hp : p c = true
    · simp only [List.take_succ_cons, List.takeWhile_cons, hp, if_true] at h ⊢
      rw [takeWhile_take p r m (by simpa using h)]
    · simp [List.takeWhile_cons, hp]
theorem takeWhile_sep {α} (p : α → Bool) (s : α) (m : List α) (hs : p s = false) : ∀ l : List α, (l ++ s :: m).takeWhile p = l.takeWhile p
  | [] => by simp [List.takeWhile_cons, hs]
  | c :: r => by
    by_cases hp : p c = true
    · simp only [List.cons_append, List.takeWhile_cons, hp, if_true]; rw [takeWhile_sep p s m hs r]
    · simp [List.takeWhile_cons, hp]
theorem takeWhile_eq_take {α} (p : α → Bool) (l : List α) : l.takeWhile p = l.take (l.takeWhile p).length :=
  (List.prefix_iff_eq_take.1 (List.takeWhile_prefix p))

/-- how many bytes a step takes -/
def Step.len : Step → Nat
  | .skip n => n
  | .tok _ t _ => t.length
  | .err => 0

theorem signs_pos : ∀ x ∈ signs, 1 ≤ x.length ∧ x.length ≤ 2 := by decide
theorem signs_plain : ∀ x ∈ signs, ∀ c ∈ x, c ≠ 10 ∧ c ≠ 32 ∧ ltr c = false ∧ dig c = false ∧ blk c = false := by decide
theorem ltr_plain {c : UInt8} (h : ltr c = true) : blk c = false ∧ c ≠ 47 := by
  refine ⟨?_, by rintro rfl; revert h; decide⟩
  simp [ltr, blk] at *; omega
theorem dig_plain {c : UInt8} (h : dig c = true) : blk c = false ∧ c ≠ 47 ∧ ltr c = false := by
  refine ⟨?_, by rintro rfl; revert h; decide, ?_⟩ <;> simp [ltr, blk, dig] at * <;> omega

/-- what a token's step says of the text -/
theorem sgn_tok {l : List UInt8} {k : Nat} {t : List UInt8} {v : Nat} (h : sgn l = .tok k t v) : k = 3 ∧ v = 0 ∧ t ∈ signs ∧ t <+: l := by
  unfold sgn at h
  split at h
  · rename_i x hx
    have h1 := List.find?_some hx
    have h2 := List.mem_of_find?_eq_some hx
    cases h
    exact ⟨rfl, rfl, h2, List.isPrefixOf_iff_prefix.1 h1⟩
  · cases h
theorem number_tok {l : List UInt8} {k : Nat} {t : List UInt8} {v : Nat} (h : number l = .tok k t v) : k = 2 ∧ v = numv 0 t ∧ t = l.takeWhile dig ∧ v ≤ 65535 := by
  unfold number at h
  simp only at h
  split at h
  · rename_i hc
    cases h
    exact ⟨rfl, rfl, rfl, hc.1⟩
  · cases h
theorem one_tok {l : List UInt8} {k : Nat} {t : List UInt8} {v : Nat} (h : one l = .tok k t v) : t <+: l ∧ 1 ≤ t.length := by
  unfold one at h
  split at h
  · cases h
  · rename_i c r
    split at h
    · rename_i hc; cases h; exact ⟨List.takeWhile_prefix _, takeWhile_pos _ _ _ (by simp [wrd, hc])⟩
    · split at h
      · rename_i hd
        obtain ⟨_, _, rfl, _⟩ := number_tok h
        exact ⟨List.takeWhile_prefix _, takeWhile_pos _ _ _ hd⟩
      · obtain ⟨_, _, h1, h2⟩ := sgn_tok h
        exact ⟨h2, (signs_pos _ h1).1⟩
theorem one_ne_skip (l : List UInt8) (n : Nat) : one l ≠ .skip n := by
  unfold one
  split
  · simp
  · split
    · simp
    · split
      · unfold number; simp only; split <;> simp
      · unfold sgn; split <;> simp
theorem step_tok {l : List UInt8} {k : Nat} {t : List UInt8} {v : Nat} (h : step l = .tok k t v) : t <+: l ∧ 1 ≤ t.length ∧ one l = .tok k t v := by
  unfold step at h
  split at h
  · cases h
  · split at h
    · cases h
    · split at h
      · cases h
      · exact ⟨(one_tok h).1, (one_tok h).2, h⟩
theorem step_skip {l : List UInt8} {n : Nat} (h : step l = .skip n) : 1 ≤ n ∧ n ≤ l.length := by
  unfold step at h
  split at h
  · cases h
  · rename_i c r
    split at h
    · cases h; simp
    · split at h
      · rename_i hc
        cases h
        refine ⟨takeWhile_pos _ _ _ ?_, takeWhile_le _ _⟩
        have := List.isPrefixOf_iff_prefix.1 hc
        obtain ⟨m, hm⟩ := this
        simp at hm
        rw [← hm.1]; decide
      · exact absurd h (one_ne_skip _ _)

theorem step_len {l : List UInt8} (h : step l ≠ .err) : 1 ≤ (step l).len ∧ (step l).len ≤ l.length := by
  cases hs : step l with
  | skip n => exact step_skip hs
  | tok k t v => exact ⟨(step_tok hs).2.1, (step_tok hs).1.length_le⟩
  | err => exact absurd hs h

/-- more fuel tells the same -/
theorem lx_fuel : ∀ (f g : Nat) (l : List UInt8) (a : Nat), l.length ≤ f → l.length ≤ g → lx f l a = lx g l a
  | 0, g, l, a, hf, hg => by
    have : l = [] := List.eq_nil_of_length_eq_zero (by omega)
    subst this
    cases g <;> rfl
  | f + 1, 0, l, a, hf, hg => by
    have : l = [] := List.eq_nil_of_length_eq_zero (by omega)
    subst this; rfl
  | f + 1, g + 1, [], a, hf, hg => rfl
  | f + 1, g + 1, c :: r, a, hf, hg => by
    simp only [lx]
    cases hs : step (c :: r) with
    | err => rfl
    | skip n =>
      have := step_skip hs
      simp only
      refine lx_fuel f g _ _ ?_ ?_ <;> simp at * <;> omega
    | tok k t v =>
      obtain ⟨h1, h2, _⟩ := step_tok hs
      have h3 := h1.length_le
      have : lx f ((c :: r).drop t.length) (a + t.length) = lx g ((c :: r).drop t.length) (a + t.length) := lx_fuel f g _ _ (by simp at *; omega) (by simp at *; omega)
      simp only [this]

/-- the lexer, without fuel: what it is at the text's end, and at each step -/
def lxA (l : List UInt8) (a : Nat) : List Tok × Option Nat := lx l.length l a
theorem lxA_nil (a : Nat) : lxA [] a = ([], none) := rfl
theorem lxA_step (l : List UInt8) (a : Nat) (hl : l ≠ []) : lxA l a = match step l with
    | .skip n => lxA (l.drop n) (a + n)
    | .tok k t v => ((⟨k, t, v, a⟩ : Tok) :: (lxA (l.drop t.length) (a + t.length)).1, (lxA (l.drop t.length) (a + t.length)).2)
    | .err => ([], some a) := by
  cases l with
  | nil => exact absurd rfl hl
  | cons c r =>
    show lx (r.length + 1) (c :: r) a = _
    simp only [lx]
    cases hs : step (c :: r) with
    | err => rfl
    | skip n =>
      have := step_skip hs
      simp only
      exact lx_fuel _ _ _ _ (by simp; omega) (by simp)
    | tok k t v =>
      obtain ⟨h1, h2, _⟩ := step_tok hs
      have : lx r.length ((c :: r).drop t.length) (a + t.length) = lxA ((c :: r).drop t.length) (a + t.length) := lx_fuel _ _ _ _ (by simp; omega) (by simp)
      simp only [this]

def mv (d : Nat) (t : Tok) : Tok := { t with pos := t.pos + d }
/-- a text further on has the same tokens, further on -/
theorem lxA_move : ∀ (n : Nat) (l : List UInt8) (a d : Nat), l.length ≤ n → lxA l (a + d) = ((lxA l a).1.map (mv d), (lxA l a).2.map (· + d))
  | 0, l, a, d, h => by
    have : l = [] := List.eq_nil_of_length_eq_zero (by omega)
    subst this; rfl
  | n + 1, l, a, d, h => by
    by_cases hl : l = []
    · subst hl; rfl
    rw [lxA_step l _ hl, lxA_step l a hl]
    cases hs : step l with
    | err => simp
    | skip m =>
      have := step_skip hs
      simp only
      rw [← lxA_move n _ _ d (by simp; omega)]
      congr 1; omega
    | tok k t v =>
      obtain ⟨h1, h2, _⟩ := step_tok hs
      have h3 := h1.length_le
      simp only
      rw [show a + d + t.length = a + t.length + d by omega, lxA_move n _ _ d (by simp; omega)]
      simp [mv]

/-! ### What a step sees: a text that is cut off behind it, and a text that goes on behind a blank or a line feed -/
theorem prefix_take {α} {t l : List α} {m : Nat} (h : t <+: l) (hm : t.length ≤ m) : t <+: l.take m := by
  obtain ⟨s, rfl⟩ := h
  exact ⟨s.take (m - t.length), by rw [List.take_append, List.take_of_length_le hm]⟩
theorem sgn_take {l : List UInt8} {m : Nat} {k t v} (h : sgn l = .tok k t v) (hm : t.length ≤ m) : sgn (l.take m) = .tok k t v := by
  obtain ⟨rfl, rfl, ht, hp⟩ := sgn_tok h
  unfold sgn at h ⊢
  have : signs.find? (fun x => x.isPrefixOf (l.take m)) = some t := by
    split at h
    · rename_i x hx
      cases h
      rw [List.find?_eq_some_iff_append] at hx ⊢
      obtain ⟨h1, as, bs, h2, h3⟩ := hx
      refine ⟨List.isPrefixOf_iff_prefix.2 (prefix_take (List.isPrefixOf_iff_prefix.1 h1) hm), as, bs, h2, fun a ha => ?_⟩
      have := h3 a ha
      simp only [Bool.not_eq_true', Bool.eq_false_iff, ne_eq, List.isPrefixOf_iff_prefix] at this ⊢
      exact fun hh => this (hh.trans (List.take_prefix _ _))
    · cases h
  rw [this]
theorem number_take {l : List UInt8} {m : Nat} {k t v} (h : number l = .tok k t v) (hm : t.length ≤ m) : number (l.take m) = .tok k t v := by
  obtain ⟨rfl, rfl, rfl, _⟩ := number_tok h
  unfold number at h ⊢
  rw [takeWhile_take _ _ _ hm]
  exact h
theorem one_take {l : List UInt8} {m : Nat} {k t v} (h : one l = .tok k t v) (hm : t.length ≤ m) : one (l.take m) = .tok k t v := by
  obtain ⟨hp, h1⟩ := one_tok h
  cases l with
  | nil => simp [one] at h
  | cons c r =>
    obtain ⟨m, rfl⟩ : ∃ j, m = j + 1 := ⟨m - 1, by omega⟩
    have e : one ((c :: r).take (m + 1)) = if ltr c then .tok 1 (((c :: r).take (m + 1)).takeWhile wrd) 0 else if dig c then number ((c :: r).take (m + 1)) else sgn ((c :: r).take (m + 1)) := rfl
    rw [e]
    have e0 : one (c :: r) = if ltr c then .tok 1 ((c :: r).takeWhile wrd) 0 else if dig c then number (c :: r) else sgn (c :: r) := rfl
    rw [e0] at h
    by_cases hl : ltr c = true
    · rw [if_pos hl] at h ⊢
      cases h
      rw [takeWhile_take _ _ _ hm]
    · rw [if_neg hl] at h ⊢
      by_cases hd : dig c = true
      · rw [if_pos hd] at h ⊢; exact number_take h hm
      · rw [if_neg hd] at h ⊢; exact sgn_take h hm
theorem isPrefixOf_take {p l : List UInt8} {m : Nat} (hm : p.length ≤ m) : p.isPrefixOf (l.take m) = p.isPrefixOf l := by
  rw [Bool.eq_iff_iff, List.isPrefixOf_iff_prefix, List.isPrefixOf_iff_prefix]
  exact ⟨fun h => h.trans (List.take_prefix _ _), fun h => prefix_take h hm⟩
theorem step_cons (c : UInt8) (r : List UInt8) : step (c :: r) = if blk c then .skip 1 else if [47, 47].isPrefixOf (c :: r) then .skip ((c :: r).takeWhile noEol).length else one (c :: r) := rfl
theorem slash2 {c : UInt8} {r : List UInt8} (h : [47, 47].isPrefixOf (c :: r) = true) : c = 47 := by
  obtain ⟨m, hm⟩ := List.isPrefixOf_iff_prefix.1 h
  simp at hm
  exact hm.1.symm
theorem one_slash (r : List UInt8) : one (47 :: r) = .err := by
  show (if ltr 47 then Step.tok 1 ((47 :: r).takeWhile wrd) 0 else if dig 47 then number (47 :: r) else sgn (47 :: r)) = _
  rw [if_neg (by decide), if_neg (by decide)]
  unfold sgn
  have : signs.find? (fun x => x.isPrefixOf (47 :: r)) = none := by
    rw [List.find?_eq_none]
    intro x hx
    simp only [signs, List.mem_cons, List.not_mem_nil, or_false] at hx
    rcases hx with rfl | rfl | rfl | rfl | rfl | rfl | rfl | rfl | rfl | rfl | rfl | rfl | rfl | rfl | rfl | rfl | rfl | rfl | rfl | rfl | rfl | rfl | rfl | rfl | rfl <;> simp [List.isPrefixOf]
  rw [this]
/-- A text that is cut off behind a step begins with the same step. -/
theorem step_take {l : List UInt8} {m : Nat} (h : step l ≠ .err) (hm : (step l).len ≤ m) : step (l.take m) = step l := by
  cases l with
  | nil => simp [step] at h
  | cons c r =>
    have hlen := step_len h
    obtain ⟨m, rfl⟩ : ∃ j, m = j + 1 := ⟨m - 1, by omega⟩
    have e : (c :: r).take (m + 1) = c :: r.take m := rfl
    rw [e, step_cons, step_cons]
    rw [step_cons] at h hm
    by_cases hb : blk c = true
    · rw [if_pos hb, if_pos hb]
    · rw [if_neg hb, if_neg hb]
      rw [if_neg hb] at h hm
      by_cases hs : [47, 47].isPrefixOf (c :: r) = true
      · rw [if_pos hs] at hm ⊢
        have h2 : 2 ≤ ((c :: r).takeWhile noEol).length := by
          obtain ⟨x, hx⟩ := List.isPrefixOf_iff_prefix.1 hs
          rw [← hx]
          have e1 : noEol 47 = true := by decide
          simp [List.takeWhile_cons, e1]
        have hm' : ((c :: r).takeWhile noEol).length ≤ m + 1 := hm
        have : [47, 47].isPrefixOf (c :: r.take m) = true := by rw [← e, isPrefixOf_take (by simp; omega)]; exact hs
        rw [if_pos this]
        congr 2
        rw [← e, takeWhile_take _ _ _ hm']
      · rw [if_neg hs] at h hm ⊢
        have : ¬ [47, 47].isPrefixOf (c :: r.take m) = true := fun hh => hs (by
          rw [← e] at hh
          exact List.isPrefixOf_iff_prefix.2 ((List.isPrefixOf_iff_prefix.1 hh).trans (List.take_prefix _ _)))
        rw [if_neg this, ← e]
        cases ho : one (c :: r) with
        | err => exact absurd ho h
        | skip n => exact absurd ho (one_ne_skip _ _)
        | tok k t v => rw [ho] at hm; exact one_take ho hm

theorem prefix_sep {x l m : List UInt8} {s : UInt8} (hx : s ∉ x) (h : x <+: l ++ s :: m) : x <+: l := by
  rcases Nat.lt_or_ge l.length x.length with h1 | h1
  · exfalso
    obtain ⟨y, hy⟩ := h
    have h2 : (x ++ y)[l.length]? = some s := by rw [hy]; simp
    rw [List.getElem?_append_left h1] at h2
    exact hx (List.mem_of_getElem? h2)
  · exact List.prefix_of_prefix_length_le h (List.prefix_append _ _) h1
/-- a blank or a line feed -/
def Sep (s : UInt8) : Prop := s = 10 ∨ s = 32
theorem Sep.plain {s : UInt8} (h : Sep s) : wrd s = false ∧ dig s = false ∧ (∀ x ∈ signs, s ∉ x) ∧ s ≠ 47 ∧ blk s = true := by
  rcases h with rfl | rfl <;> decide
theorem sgn_sep (l m : List UInt8) {s : UInt8} (h : Sep s) : sgn (l ++ s :: m) = sgn l := by
  unfold sgn
  have : ∀ x ∈ signs, x.isPrefixOf (l ++ s :: m) = x.isPrefixOf l := by
    intro x hx
    rw [Bool.eq_iff_iff, List.isPrefixOf_iff_prefix, List.isPrefixOf_iff_prefix]
    exact ⟨prefix_sep (h.plain.2.2.1 x hx), fun hh => hh.trans (List.prefix_append _ _)⟩
  have e : signs.find? (fun x => x.isPrefixOf (l ++ s :: m)) = signs.find? (fun x => x.isPrefixOf l) := by
    have : ∀ L : List (List UInt8), (∀ x ∈ L, x.isPrefixOf (l ++ s :: m) = x.isPrefixOf l) → L.find? (fun x => x.isPrefixOf (l ++ s :: m)) = L.find? (fun x => x.isPrefixOf l) := by
      intro L
      induction L with
      | nil => intro _; rfl
      | cons a L ih =>
        intro hL
        simp only [List.find?_cons]
        rw [hL a (by simp), ih (fun x hx => hL x (by simp [hx]))]
    exact this _ (by assumption)
  rw [e]
theorem number_sep (l m : List UInt8) {s : UInt8} (h : Sep s) : number (l ++ s :: m) = number l := by
  unfold number
  rw [takeWhile_sep _ _ _ h.plain.2.1]
theorem one_sep (l m : List UInt8) {s : UInt8} (h : Sep s) (hl : l ≠ []) : one (l ++ s :: m) = one l := by
  cases l with
  | nil => exact absurd rfl hl
  | cons c r =>
    show (if ltr c then Step.tok 1 ((c :: r ++ s :: m).takeWhile wrd) 0 else if dig c then number (c :: r ++ s :: m) else sgn (c :: r ++ s :: m)) = (if ltr c then Step.tok 1 ((c :: r).takeWhile wrd) 0 else if dig c then number (c :: r) else sgn (c :: r))
    rw [takeWhile_sep _ _ _ h.plain.1, number_sep _ _ h, sgn_sep _ _ h]
/-- A text that goes on behind a line feed begins with the same step; behind a blank, unless that is a remark. -/
theorem step_sep (l m : List UInt8) {s : UInt8} (h : Sep s) (hl : l ≠ []) (hr : s = 10 ∨ ¬ [47, 47].isPrefixOf l = true) : step (l ++ s :: m) = step l := by
  cases l with
  | nil => exact absurd rfl hl
  | cons c r =>
    have e : c :: r ++ s :: m = c :: (r ++ s :: m) := rfl
    rw [e, step_cons, step_cons]
    have h2 : [47, 47].isPrefixOf (c :: (r ++ s :: m)) = [47, 47].isPrefixOf (c :: r) := by
      rw [← e, Bool.eq_iff_iff, List.isPrefixOf_iff_prefix, List.isPrefixOf_iff_prefix]
      exact ⟨prefix_sep (by simp; exact h.plain.2.2.2.1), fun hh => hh.trans (List.prefix_append _ _)⟩
    rw [h2]
    by_cases hs : [47, 47].isPrefixOf (c :: r) = true
    · rw [if_pos hs, if_pos hs]
      rcases hr with rfl | hr
      · rw [← e, takeWhile_sep _ _ _ (by decide)]
      · exact absurd hs hr
    · rw [if_neg hs, if_neg hs, ← e, one_sep _ _ h (by simp)]

/-! ### Whole texts -/
theorem mv_zero (l : List Tok) : l.map (mv 0) = l := by
  have : mv 0 = id := by funext t; simp [mv]
  rw [this, List.map_id]
theorem lxA_at (l : List UInt8) (d : Nat) : lxA l d = ((lxA l 0).1.map (mv d), (lxA l 0).2.map (· + d)) := by
  have := lxA_move l.length l 0 d (Nat.le_refl _)
  simpa using this

/-- a token's place: where it stands in the text; all tokens one behind the other -/
theorem lxA_places : ∀ (n : Nat) (l : List UInt8) (a : Nat), l.length ≤ n → ∀ (i : Nat) (t : Tok), (lxA l a).1[i]? = some t →
    a ≤ t.pos ∧ t.pos + t.text.length ≤ a + l.length ∧ 1 ≤ t.text.length ∧ t.text <+: l.drop (t.pos - a) ∧ one (l.drop (t.pos - a)) = .tok t.kind t.text t.n ∧
      step (l.drop (t.pos - a)) = .tok t.kind t.text t.n ∧ (∀ (j : Nat) (u : Tok), j < i → (lxA l a).1[j]? = some u → u.pos + u.text.length ≤ t.pos)
  | 0, l, a, h, i, t, ht => by
    have : l = [] := List.eq_nil_of_length_eq_zero (by omega)
    subst this; simp [lxA_nil] at ht
  | n + 1, l, a, h, i, t, ht => by
    by_cases hl : l = []
    · subst hl; simp [lxA_nil] at ht
    rw [lxA_step l a hl] at ht
    rw [lxA_step l a hl]
    cases hs : step l with
    | err => rw [hs] at ht; simp at ht
    | skip m =>
      rw [hs] at ht
      have hm := step_skip hs
      obtain ⟨h1, h2, h3, h4, h5, h6, h7⟩ := lxA_places n (l.drop m) (a + m) (by simp; omega) i t ht
      have e : (l.drop m).drop (t.pos - (a + m)) = l.drop (t.pos - a) := by rw [List.drop_drop]; congr 1; omega
      rw [e] at h4 h5 h6
      simp only [List.length_drop] at h2
      exact ⟨by omega, by omega, h3, h4, h5, h6, h7⟩
    | tok k x v =>
      rw [hs] at ht
      obtain ⟨p1, p2, p3⟩ := step_tok hs
      have p4 := p1.length_le
      cases i with
      | zero =>
        simp only [List.getElem?_cons_zero, Option.some.injEq] at ht
        subst ht
        simp only [Nat.sub_self, List.drop_zero]
        exact ⟨Nat.le_refl _, by omega, p2, p1, p3, hs, fun j u hj => absurd hj (by omega)⟩
      | succ i =>
        simp only [List.getElem?_cons_succ] at ht
        obtain ⟨h1, h2, h3, h4, h5, h6, h7⟩ := lxA_places n (l.drop x.length) (a + x.length) (by simp; omega) i t ht
        have e : (l.drop x.length).drop (t.pos - (a + x.length)) = l.drop (t.pos - a) := by rw [List.drop_drop]; congr 1; omega
        rw [e] at h4 h5 h6
        simp only [List.length_drop] at h2
        refine ⟨by omega, by omega, h3, h4, h5, h6, fun j u hj hu => ?_⟩
        cases j with
        | zero => simp only [List.getElem?_cons_zero, Option.some.injEq] at hu; subst hu; exact h1
        | succ j => exact h7 j u (by omega) (by simpa using hu)

/-- Cut at a token's place, or at an error's: what stands ahead has the tokens ahead; what begins there has the others. -/
theorem lxA_cut : ∀ (n : Nat) (l : List UInt8) (a : Nat), l.length ≤ n → ∀ (i p : Nat),
    ((∃ t : Tok, (lxA l a).1[i]? = some t ∧ t.pos = p) ∨ (i = (lxA l a).1.length ∧ (lxA l a).2 = some p)) →
    a ≤ p ∧ p ≤ a + l.length ∧ lxA (l.take (p - a)) a = ((lxA l a).1.take i, none) ∧ lxA (l.drop (p - a)) p = ((lxA l a).1.drop i, (lxA l a).2)
  | 0, l, a, h, i, p, ht => by
    have : l = [] := List.eq_nil_of_length_eq_zero (by omega)
    subst this; simp [lxA_nil] at ht
  | n + 1, l, a, h, i, p, ht => by
    by_cases hl : l = []
    · subst hl; simp [lxA_nil] at ht
    have key : ∀ m, 1 ≤ m → m ≤ l.length → a + m ≤ p → p ≤ a + l.length → (l.take (p - a)).drop m = (l.drop m).take (p - (a + m)) ∧ l.take (p - a) ≠ [] := by
      intro m h1 h2 h3 h4
      refine ⟨?_, fun hh => ?_⟩
      · rw [List.drop_take]; congr 1; omega
      · have := congrArg List.length hh
        simp at this; rcases this with h5 | h5
        · omega
        · exact hl h5
    rw [lxA_step l a hl] at ht
    rw [lxA_step l a hl]
    cases hs : step l with
    | err =>
      rw [hs] at ht
      simp at ht
      obtain ⟨rfl, rfl⟩ := ht
      refine ⟨Nat.le_refl _, by omega, by simp [lxA_nil], ?_⟩
      simp only [Nat.sub_self, List.drop_zero]
      rw [lxA_step l a hl, hs]
    | skip m =>
      rw [hs] at ht
      have hm := step_skip hs
      obtain ⟨h1, h2, h3, h4⟩ := lxA_cut n (l.drop m) (a + m) (by simp; omega) i p ht
      simp only [List.length_drop] at h2
      have e : (l.drop m).drop (p - (a + m)) = l.drop (p - a) := by rw [List.drop_drop]; congr 1; omega
      obtain ⟨k1, k2⟩ := key m hm.1 hm.2 h1 (by omega)
      refine ⟨by omega, by omega, ?_, by rw [← e]; exact h4⟩
      have hst : step (l.take (p - a)) = step l := step_take (by rw [hs]; simp) (by rw [hs]; simp only [Step.len]; omega)
      rw [lxA_step _ a k2, hst, hs]
      simp only
      rw [k1]; exact h3
    | tok k x v =>
      rw [hs] at ht
      obtain ⟨p1, p2, p3⟩ := step_tok hs
      have p4 := p1.length_le
      cases i with
      | zero =>
        simp at ht
        subst ht
        refine ⟨Nat.le_refl _, by omega, by simp [lxA_nil], ?_⟩
        simp only [Nat.sub_self, List.drop_zero]
        rw [lxA_step l a hl, hs]
      | succ i =>
        simp only [List.getElem?_cons_succ, List.length_cons, Nat.add_right_cancel_iff] at ht
        obtain ⟨h1, h2, h3, h4⟩ := lxA_cut n (l.drop x.length) (a + x.length) (by simp; omega) i p ht
        simp only [List.length_drop] at h2
        have e : (l.drop x.length).drop (p - (a + x.length)) = l.drop (p - a) := by rw [List.drop_drop]; congr 1; omega
        obtain ⟨k1, k2⟩ := key x.length p2 p4 h1 (by omega)
        refine ⟨by omega, by omega, ?_, by rw [← e]; exact h4⟩
        have hst : step (l.take (p - a)) = step l := step_take (by rw [hs]; simp) (by rw [hs]; simp only [Step.len]; omega)
        rw [lxA_step _ a k2, hst, hs]
        simp only
        rw [k1, h3]
        simp

/-- A text, a line feed, another text. -/
theorem lxA_join : ∀ (n : Nat) (l : List UInt8) (a : Nat) (m : List UInt8), l.length ≤ n →
    lxA (l ++ 10 :: m) a = match (lxA l a).2 with
      | some p => ((lxA l a).1, some p)
      | none => ((lxA l a).1 ++ (lxA m (a + l.length + 1)).1, (lxA m (a + l.length + 1)).2)
  | n, [], a, m, _ => by
    show lxA (10 :: m) a = _
    rw [lxA_step _ a (by simp)]
    have : step (10 :: m) = .skip 1 := by rw [step_cons]; rfl
    rw [this]
    simp [lxA_nil]
  | 0, c :: r, a, m, h => by simp at h
  | n + 1, c :: r, a, m, h => by
    have hl : c :: r ≠ [] := by simp
    have hst : step (c :: r ++ 10 :: m) = step (c :: r) := step_sep _ _ (.inl rfl) hl (.inl rfl)
    rw [lxA_step _ a (by simp), hst, lxA_step (c :: r) a hl]
    cases hs : step (c :: r) with
    | err => rfl
    | skip k =>
      have hm := step_skip hs
      simp only
      rw [List.drop_append_of_le_length hm.2, lxA_join n _ _ m (by simp at *; omega)]
      have : a + k + ((c :: r).drop k).length + 1 = a + (c :: r).length + 1 := by simp at *; omega
      rw [this]
    | tok k x v =>
      obtain ⟨p1, p2, p3⟩ := step_tok hs
      have p4 := p1.length_le
      simp only
      rw [List.drop_append_of_le_length p4, lxA_join n _ _ m (by simp at *; omega)]
      have : a + x.length + ((c :: r).drop x.length).length + 1 = a + (c :: r).length + 1 := by simp at *; omega
      rw [this]
      cases (lxA ((c :: r).drop x.length) (a + x.length)).2 <;> simp
/-- blanks alone have no token -/
theorem lxA_blanks : ∀ (n a : Nat), lxA (List.replicate n 32) a = ([], none)
  | 0, a => rfl
  | n + 1, a => by
    rw [lxA_step _ a (by simp [List.replicate_succ])]
    have : step (List.replicate (n + 1) (32 : UInt8)) = .skip 1 := by rw [List.replicate_succ, step_cons]; rfl
    rw [this]
    simp only [List.replicate_succ, List.drop_succ_cons, List.drop_zero]
    exact lxA_blanks n _
/-- A text, and blanks behind it; the same, if no remark stands at its end.. the tokens are the same anyhow. -/
theorem noEol_blanks (n : Nat) : (List.replicate n (32 : UInt8)).takeWhile noEol = List.replicate n 32 := by
  induction n with
  | zero => rfl
  | succ n ih => rw [List.replicate_succ, List.takeWhile_cons]; simp [noEol] at ih ⊢
theorem takeWhile_eq_self {α} (p : α → Bool) : ∀ l : List α, (l.takeWhile p).length = l.length → ∀ x ∈ l, p x = true
  | [], _ => by simp
  | c :: r, h => by
    by_cases hp : p c = true
    · simp only [List.takeWhile_cons, hp, if_true, List.length_cons, Nat.add_right_cancel_iff] at h
      intro x hx
      rcases List.mem_cons.1 hx with rfl | hx
      · exact hp
      · exact takeWhile_eq_self p r h x hx
    · simp [List.takeWhile_cons, hp] at h
theorem lxA_spaces : ∀ (n : Nat) (l : List UInt8) (a k : Nat), l.length ≤ n → lxA (l ++ List.replicate k 32) a = lxA l a
  | n, [], a, k, _ => by rw [List.nil_append, lxA_blanks]; rfl
  | 0, c :: r, a, k, h => by simp at h
  | n + 1, c :: r, a, 0, h => by simp
  | n + 1, c :: r, a, k + 1, h => by
    have hl : c :: r ≠ [] := by simp
    have e : c :: r ++ List.replicate (k + 1) 32 = c :: r ++ 32 :: List.replicate k 32 := by rw [List.replicate_succ]
    by_cases hr : [47, 47].isPrefixOf (c :: r) = true
    · have h47 : c = 47 := slash2 hr
      have hs : step (c :: r) = .skip ((c :: r).takeWhile noEol).length := by rw [step_cons, if_neg (by rw [h47]; decide), if_pos hr]
      have hs2 : step (c :: r ++ List.replicate (k + 1) 32) = .skip ((c :: r ++ List.replicate (k + 1) 32).takeWhile noEol).length := by
        rw [List.cons_append, step_cons, if_neg (by rw [h47]; decide), if_pos]
        exact List.isPrefixOf_iff_prefix.2 ((List.isPrefixOf_iff_prefix.1 hr).trans ⟨List.replicate (k + 1) 32, rfl⟩)
      rw [lxA_step _ a (by simp), hs2, lxA_step _ a hl, hs]
      simp only
      by_cases hall : ((c :: r).takeWhile noEol).length = (c :: r).length
      · have h1 : ((c :: r) ++ List.replicate (k + 1) 32).takeWhile noEol = (c :: r) ++ List.replicate (k + 1) 32 := by
          rw [List.takeWhile_append_of_pos (takeWhile_eq_self _ _ hall), noEol_blanks]
        rw [h1, List.drop_length, hall, List.drop_length]
        rfl
      · have h1 : ((c :: r) ++ List.replicate (k + 1) 32).takeWhile noEol = (c :: r).takeWhile noEol := by
          have := List.takeWhile_append (p := noEol) (xs := c :: r) (ys := List.replicate (k + 1) (32 : UInt8))
          rw [this, if_neg hall]
        have hm := step_skip hs
        rw [h1, List.drop_append_of_le_length hm.2]
        exact lxA_spaces n _ _ _ (by simp at *; omega)
    · have hst : step (c :: r ++ List.replicate (k + 1) 32) = step (c :: r) := by rw [e]; exact step_sep _ _ (.inr rfl) hl (.inr hr)
      rw [lxA_step _ a (by simp), hst, lxA_step (c :: r) a hl]
      cases hs : step (c :: r) with
      | err => rfl
      | skip j =>
        have hm := step_skip hs
        simp only
        rw [List.drop_append_of_le_length hm.2]
        exact lxA_spaces n _ _ _ (by simp at *; omega)
      | tok j x v =>
        obtain ⟨p1, p2, p3⟩ := step_tok hs
        have p4 := p1.length_le
        simp only
        rw [List.drop_append_of_le_length p4, lxA_spaces n _ _ _ (by simp at *; omega)]

/-! ### Tokens as text -/
def joinB : List (List UInt8) → List UInt8
  | [] => []
  | [x] => x
  | x :: y :: r => x ++ 32 :: joinB (y :: r)
theorem joinB_eq : ∀ (x : List UInt8) (r : List (List UInt8)), joinB (x :: r) = x ++ (r.map (32 :: ·)).flatten
  | x, [] => by simp [joinB]
  | x, y :: r => by
    show x ++ 32 :: joinB (y :: r) = _
    rw [joinB_eq y r]; simp
theorem joinB_snoc (l : List (List UInt8)) (x : List UInt8) : joinB (l ++ [x]) = if l = [] then x else joinB l ++ 32 :: x := by
  cases l with
  | nil => rfl
  | cons y r => rw [List.cons_append, joinB_eq, joinB_eq]; simp
def Good (t : Tok) : Prop := 1 ≤ t.text.length ∧ step t.text = .tok t.kind t.text t.n
theorem lxA_good (l : List UInt8) (a : Nat) : ∀ t ∈ (lxA l a).1, Good t := by
  intro t ht
  obtain ⟨i, hi⟩ := List.getElem?_of_mem ht
  obtain ⟨h1, h2, h3, h4, h5, h6, h7⟩ := lxA_places l.length l a (Nat.le_refl _) i t hi
  have e : t.text = (l.drop (t.pos - a)).take t.text.length := List.prefix_iff_eq_take.1 h4
  refine ⟨h3, ?_⟩
  have := step_take (l := l.drop (t.pos - a)) (m := t.text.length) (by rw [h6]; simp) (by rw [h6]; simp [Step.len])
  rw [← e, h6] at this
  exact this
theorem Good.noRemark {t : Tok} (h : Good t) : ¬ [47, 47].isPrefixOf t.text = true := by
  intro hp
  have := h.2
  cases ht : t.text with
  | nil => rw [ht] at hp; simp at hp
  | cons c r =>
    rw [ht] at hp this
    rw [step_cons, if_neg (by rw [slash2 hp]; decide), if_pos hp] at this
    cases this
def Alike (a b : Tok) : Prop := a.kind = b.kind ∧ a.text = b.text ∧ a.n = b.n
def Alikes : List Tok → List Tok → Prop
  | [], [] => True
  | a :: l, b :: m => Alike a b ∧ Alikes l m
  | _, _ => False
/-- What is written of good tokens has just these, but for their places. -/
theorem lxA_joinB : ∀ (l : List Tok) (a : Nat), (∀ t ∈ l, Good t) → (lxA (joinB (l.map (·.text))) a).2 = none ∧ Alikes l (lxA (joinB (l.map (·.text))) a).1
  | [], a, _ => ⟨rfl, trivial⟩
  | [t], a, h => by
    obtain ⟨h1, h2⟩ := h t (by simp)
    have hne : t.text ≠ [] := by intro hh; rw [hh] at h1; simp at h1
    simp only [List.map_cons, List.map_nil, joinB]
    rw [lxA_step _ a hne, h2]
    simp only [List.drop_length, lxA_nil]
    exact ⟨trivial, ⟨rfl, rfl, rfl⟩, trivial⟩
  | t :: u :: r, a, h => by
    obtain ⟨h1, h2⟩ := h t (by simp)
    have hne : t.text ≠ [] := by intro hh; rw [hh] at h1; simp at h1
    have ih := lxA_joinB (u :: r) (a + t.text.length + 1) (fun x hx => h x (by simp at hx ⊢; rcases hx with rfl | hx <;> simp [*]))
    have e : joinB ((t :: u :: r).map (·.text)) = t.text ++ 32 :: joinB ((u :: r).map (·.text)) := rfl
    rw [e]
    have hst : step (t.text ++ 32 :: joinB ((u :: r).map (·.text))) = .tok t.kind t.text t.n := by
      rw [step_sep _ _ (.inr rfl) hne (.inr (h t (by simp)).noRemark), h2]
    rw [lxA_step _ a (by simp), hst]
    simp only
    have hd : (t.text ++ 32 :: joinB ((u :: r).map (·.text))).drop t.text.length = 32 :: joinB ((u :: r).map (·.text)) := by simp
    rw [hd]
    have hs2 : lxA (32 :: joinB ((u :: r).map (·.text))) (a + t.text.length) = lxA (joinB ((u :: r).map (·.text))) (a + t.text.length + 1) := by
      rw [lxA_step _ _ (by simp)]
      have : step (32 :: joinB ((u :: r).map (·.text))) = .skip 1 := by rw [step_cons]; rfl
      rw [this]; rfl
    rw [hs2]
    exact ⟨ih.1, ⟨rfl, rfl, rfl⟩, ih.2⟩
theorem Alikes.texts : ∀ {l m : List Tok}, Alikes l m → l.map (·.text) = m.map (·.text)
  | [], [], _ => rfl
  | a :: l, b :: m, h => by simp [h.1.2.1, Alikes.texts h.2]
  | [], _ :: _, h => h.elim
  | _ :: _, [], h => h.elim
end LexP
