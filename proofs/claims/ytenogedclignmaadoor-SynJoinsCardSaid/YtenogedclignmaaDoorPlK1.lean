/-
  HELPER.
-/
import Derived.Test.YtenogedclignmaaDoorPlKA
import Derived.Lib.AtoiAllCases
import Derived.Test.YtenogedclignmaaDoorPlK0
set_option linter.unusedSimpArgs false
set_option linter.unusedVariables false
namespace LexP
def dig (c : UInt8) : Bool := 48 ≤ c.toNat && c.toNat ≤ 57
def ltr (c : UInt8) : Bool := (97 ≤ c.toNat && c.toNat ≤ 122) || (65 ≤ c.toNat && c.toNat ≤ 90) || c.toNat == 95
def wrd (c : UInt8) : Bool := ltr c || dig c
def blk (c : UInt8) : Bool := c.toNat == 32 || c.toNat == 9 || c.toNat == 10
def noEol (c : UInt8) : Bool := !(c.toNat == 10)
def signs : List (List UInt8) := [[60, 61], [61, 61], [33, 61], [40], [41], [123], [125], [60], [62], [91], [93], [58], [59], [44], [61], [38], [124], [94], [126], [43], [45], [42], [63], [46], [39]]
def push (a : Nat) (c : UInt8) : Nat := 10 * a + (c.toNat - 48)
def numv (a : Nat) : List UInt8 → Nat
 | [] => a
 | c :: r => numv (push a c) r
theorem numv_nil (a : Nat) : numv a [] = a := id rfl
theorem numv_cons (a : Nat) (c : UInt8) (r : List UInt8) : numv a (c :: r) = numv (push a c) r := id rfl
inductive Step where
 | skip (n : Nat)
 | tok (k : Nat) (t : List UInt8) (v : Nat)
 | err
 deriving DecidableEq, Repr
def sgn (l : List UInt8) : Step := match signs.find? (fun x => x.isPrefixOf l) with
 | some x => .tok 3 x 0
 | none => .err
def number (l : List UInt8) : Step :=
 let t := l.takeWhile dig
 if numv 0 t ≤ 65535 ∧ (t.length = 1 ∨ t.head? ≠ some 48) then .tok 2 t (numv 0 t) else .err
def one (l : List UInt8) : Step := match l with
 | [] => .err
 | c :: _ => if ltr c then .tok 1 (l.takeWhile wrd) 0 else if dig c then number l else sgn l
def step (l : List UInt8) : Step := match l with
 | [] => .err
 | c :: _ => if blk c then .skip 1 else if [47, 47].isPrefixOf l then .skip (l.takeWhile noEol).length else one l
structure Tok where
 kind : Nat
 text : List UInt8
 n : Nat
 pos : Nat
 deriving DecidableEq, Repr
def lx : Nat → List UInt8 → Nat → List Tok × Option Nat
 | 0, _, _ => ([], none)
 | _ + 1, [], _ => ([], none)
 | f + 1, c :: r, at_ => match step (c :: r) with
  | .skip n => lx f ((c :: r).drop n) (at_ + n)
  | .tok k t v => ((⟨k, t, v, at_⟩ : Tok) :: (lx f ((c :: r).drop t.length) (at_ + t.length)).1, (lx f ((c :: r).drop t.length) (at_ + t.length)).2)
  | .err => ([], some at_)
theorem takeWhile_le {α} (p : α → Bool) (l : List α) : (l.takeWhile p).length ≤ l.length := (List.takeWhile_prefix p).length_le
theorem takeWhile_pos {α} (p : α → Bool) (c : α) (r : List α) (h : p c = true) : 1 ≤ ((c :: r).takeWhile p).length := by simp [List.takeWhile_cons, h]
theorem takeWhile_eq_take {α} (p : α → Bool) (l : List α) : l.takeWhile p = l.take (l.takeWhile p).length :=
 (List.prefix_iff_eq_take.1 (List.takeWhile_prefix p))
theorem signs_pos : ∀ x ∈ signs, 1 ≤ x.length ∧ x.length ≤ 2 := by decide
theorem sgn_tok {l : List UInt8} {k : Nat} {t : List UInt8} {v : Nat} (h : sgn l = .tok k t v) : k = 3 ∧ v = 0 ∧ t ∈ signs ∧ t <+: l := by
 unfold sgn at h
 split at h
 ·rename_i x hx
  have h1 := List.find?_some hx
  have h2 := List.mem_of_find?_eq_some hx
  cases h
  exact ⟨rfl, rfl, h2, List.isPrefixOf_iff_prefix.1 h1⟩
 ·cases h
theorem number_tok {l : List UInt8} {k : Nat} {t : List UInt8} {v : Nat} (h : number l = .tok k t v) : k = 2 ∧ v = numv 0 t ∧ t = l.takeWhile dig ∧ v ≤ 65535 := by
 unfold number at h
 simp only at h
 split at h
 ·rename_i hc
  cases h
  exact ⟨rfl, rfl, rfl, hc.1⟩
 ·cases h
theorem one_tok {l : List UInt8} {k : Nat} {t : List UInt8} {v : Nat} (h : one l = .tok k t v) : t <+: l ∧ 1 ≤ t.length := by
 unfold one at h
 split at h
 ·cases h
 ·rename_i c r
  split at h
  ·rename_i hc; cases h; exact ⟨List.takeWhile_prefix _, takeWhile_pos _ _ _ (by simp [wrd, hc])⟩
  ·split at h
   ·rename_i hd
    obtain ⟨_, _, rfl, _⟩ := number_tok h
    exact ⟨List.takeWhile_prefix _, takeWhile_pos _ _ _ hd⟩
   ·obtain ⟨_, _, h1, h2⟩ := sgn_tok h
    exact ⟨h2, (signs_pos _ h1).1⟩
theorem one_ne_skip (l : List UInt8) (n : Nat) : one l ≠ .skip n := by
 unfold one
 split
 ·simp
 ·split
  ·simp
  ·split
   ·unfold number; simp only; split <;> simp
   ·unfold sgn; split <;> simp
theorem step_tok {l : List UInt8} {k : Nat} {t : List UInt8} {v : Nat} (h : step l = .tok k t v) : t <+: l ∧ 1 ≤ t.length ∧ one l = .tok k t v := by
 unfold step at h
 split at h
 ·cases h
 ·split at h
  ·cases h
  ·split at h
   ·cases h
   ·exact ⟨(one_tok h).1, (one_tok h).2, h⟩
theorem step_skip {l : List UInt8} {n : Nat} (h : step l = .skip n) : 1 ≤ n ∧ n ≤ l.length := by
 unfold step at h
 split at h
 ·cases h
 ·rename_i c r
  split at h
  ·cases h; simp
  ·split at h
   ·rename_i hc
    cases h
    refine ⟨takeWhile_pos _ _ _ ?_, takeWhile_le _ _⟩
    have := List.isPrefixOf_iff_prefix.1 hc
    obtain ⟨m, hm⟩ := this
    simp at hm
    rw [← hm.1]; decide
   ·exact absurd h (one_ne_skip _ _)
theorem lx_fuel : ∀ (f g : Nat) (l : List UInt8) (a : Nat), l.length ≤ f → l.length ≤ g → lx f l a = lx g l a
 | 0, g, l, a, hf, hg => by
  have : l = [] := List.eq_nil_of_length_eq_zero (by omega)
  subst this
  cases g <;> rfl
 | f + 1, 0, l, a, hf, hg => by
  have : l = [] := List.eq_nil_of_length_eq_zero (by omega)
  subst this; rfl
 | f + 1, g + 1, [], a, hf, hg => rfl
 | f + 1, g + 1, c :: r, a, hf, hg => by
  simp only [lx]
  cases hs : step (c :: r) with
  | err => rfl
  | skip n =>
   have := step_skip hs
   simp only
   refine lx_fuel f g _ _ ?_ ?_ <;> simp at * <;> omega
  | tok k t v =>
   obtain ⟨h1, h2, _⟩ := step_tok hs
   have h3 := h1.length_le
   have : lx f ((c :: r).drop t.length) (a + t.length) = lx g ((c :: r).drop t.length) (a + t.length) := lx_fuel f g _ _ (by simp at *; omega) (by simp at *; omega)
   simp only [this]
def lxA (l : List UInt8) (a : Nat) : List Tok × Option Nat := lx l.length l a
theorem lxA_nil (a : Nat) : lxA [] a = ([], none) := rfl
theorem lxA_step (l : List UInt8) (a : Nat) (hl : l ≠ []) : lxA l a = match step l with
  | .skip n => lxA (l.drop n) (a + n)
  | .tok k t v => ((⟨k, t, v, a⟩ : Tok) :: (lxA (l.drop t.length) (a + t.length)).1, (lxA (l.drop t.length) (a + t.length)).2)
  | .err => ([], some a) := by
 cases l with
 | nil => exact absurd rfl hl
 | cons c r =>
  show lx (r.length + 1) (c :: r) a = _
  simp only [lx]
  cases hs : step (c :: r) with
  | err => rfl
  | skip n =>
   have := step_skip hs
   simp only
   exact lx_fuel _ _ _ _ (by simp; omega) (by simp)
  | tok k t v =>
   obtain ⟨h1, h2, _⟩ := step_tok hs
   have : lx r.length ((c :: r).drop t.length) (a + t.length) = lxA ((c :: r).drop t.length) (a + t.length) := lx_fuel _ _ _ _ (by simp; omega) (by simp)
   simp only [this]
theorem step_cons (c : UInt8) (r : List UInt8) : step (c :: r) = if blk c then .skip 1 else if [47, 47].isPrefixOf (c :: r) then .skip ((c :: r).takeWhile noEol).length else one (c :: r) := rfl
theorem lxA_places : ∀ (n : Nat) (l : List UInt8) (a : Nat), l.length ≤ n → ∀ (i : Nat) (t : Tok), (lxA l a).1[i]? = some t →
  a ≤ t.pos ∧ t.pos + t.text.length ≤ a + l.length ∧ 1 ≤ t.text.length ∧ t.text <+: l.drop (t.pos - a) ∧ one (l.drop (t.pos - a)) = .tok t.kind t.text t.n ∧
   step (l.drop (t.pos - a)) = .tok t.kind t.text t.n ∧ (∀ (j : Nat) (u : Tok), j < i → (lxA l a).1[j]? = some u → u.pos + u.text.length ≤ t.pos)
 | 0, l, a, h, i, t, ht => by
  have : l = [] := List.eq_nil_of_length_eq_zero (by omega)
  subst this; simp [lxA_nil] at ht
 | n + 1, l, a, h, i, t, ht => by
  by_cases hl : l = []
  ·subst hl; simp [lxA_nil] at ht
  rw [lxA_step l a hl] at ht
  rw [lxA_step l a hl]
  cases hs : step l with
  | err => rw [hs] at ht; simp at ht
  | skip m =>
   rw [hs] at ht
   have hm := step_skip hs
   obtain ⟨h1, h2, h3, h4, h5, h6, h7⟩ := lxA_places n (l.drop m) (a + m) (by simp; omega) i t ht
   have e : (l.drop m).drop (t.pos - (a + m)) = l.drop (t.pos - a) := by rw [List.drop_drop]; congr 1; omega
   rw [e] at h4 h5 h6
   simp only [List.length_drop] at h2
   exact ⟨by omega, by omega, h3, h4, h5, h6, h7⟩
  | tok k x v =>
   rw [hs] at ht
   obtain ⟨p1, p2, p3⟩ := step_tok hs
   have p4 := p1.length_le
   cases i with
   | zero =>
    simp only [List.getElem?_cons_zero, Option.some.injEq] at ht
    subst ht
    simp only [Nat.sub_self, List.drop_zero]
    exact ⟨Nat.le_refl _, by omega, p2, p1, p3, hs, fun j u hj => absurd hj (by omega)⟩
   | succ i =>
    simp only [List.getElem?_cons_succ] at ht
    obtain ⟨h1, h2, h3, h4, h5, h6, h7⟩ := lxA_places n (l.drop x.length) (a + x.length) (by simp; omega) i t ht
    have e : (l.drop x.length).drop (t.pos - (a + x.length)) = l.drop (t.pos - a) := by rw [List.drop_drop]; congr 1; omega
    rw [e] at h4 h5 h6
    simp only [List.length_drop] at h2
    refine ⟨by omega, by omega, h3, h4, h5, h6, fun j u hj hu => ?_⟩
    cases j with
    | zero => simp only [List.getElem?_cons_zero, Option.some.injEq] at hu; subst hu; exact h1
    | succ j => exact h7 j u (by omega) (by simpa using hu)
end LexP
namespace Go.Proofs.YtenogedclignmaaDoor.Q
open Go.RowKit Go.Proofs.YtenogedclignmaaDoorW.PrintWords Go.Proofs.YtenogedclignmaaDoorW.PrintLast Go.Proofs.YtenogedclignmaaDoorW.PrintMore
theorem dig_f (c : UInt8) : lex_digit.f (c.toNat : Int) = some (LexP.dig c) := by
 unfold lex_digit.f LexP.dig
 by_cases h : 48 ≤ c.toNat
 ·rw [if_pos (show ((c.toNat : Int)) ≥ 48 by omega)]
  simp [h]; omega
 ·rw [if_neg (show ¬ ((c.toNat : Int)) ≥ 48 by omega)]
  simp [h]
theorem let_f (c : UInt8) : lex_letter.f (c.toNat : Int) = some (LexP.ltr c) := by
 have h : ∀ n : Fin 256, lex_letter.f (n.val : Int) = some (LexP.ltr (UInt8.ofNat n.val)) := by decide +kernel
 have := h ⟨c.toNat, c.toNat_lt⟩
 simpa using this
theorem tw_step (p : UInt8 → Bool) (s : ByteArray) (k : Nat) (h : k < s.size) (hp : p (s[k]'h) = true) : ((s.data.toList.drop k).takeWhile p).length = ((s.data.toList.drop (k + 1)).takeWhile p).length + 1 := by
 have hk : k < s.data.toList.length := by simpa using h
 rw [List.drop_eq_getElem_cons hk]
 have e : s.data.toList[k] = s[k]'h := by simp; rfl
 rw [List.takeWhile_cons, e, if_pos hp]; simp
theorem tw_stop (p : UInt8 → Bool) (s : ByteArray) (k : Nat) (h : k < s.size) (hp : p (s[k]'h) = false) : ((s.data.toList.drop k).takeWhile p).length = 0 := by
 have hk : k < s.data.toList.length := by simpa using h
 rw [List.drop_eq_getElem_cons hk]
 have e : s.data.toList[k] = s[k]'h := by simp; rfl
 rw [List.takeWhile_cons, e, hp]; simp
theorem tw_end (p : UInt8 → Bool) (s : ByteArray) (k : Nat) (h : s.size ≤ k) : ((s.data.toList.drop k).takeWhile p).length = 0 := by
 rw [List.drop_eq_nil_of_le (by simpa using h)]; rfl
set_option maxHeartbeats 4000000 in
set_option maxRecDepth 100000 in
theorem lword_calls (c : UInt8) (w : World) :
  Calls Tryd.prog 45 #[.int .u8 c.toNat] w fun e w' => e = .returned (.bool (LexP.wrd c)) ∧ Drawn0 w w' := by
 have HC := aS (let_f c)
 have HD := aS (dig_f c)
 by_cases hl : LexP.ltr c = true
 ·go_enter Tryd.func45, Tryd.ntmps45
  go_wp2_with (first | (go_at_call 44; refine (lex_letter.calls _ _ _ HC.out).mono ?_; rintro e w' ⟨rfl, ⟨nd, rfl⟩⟩; rw [hl]))
  go_ret
  exact ⟨by simp [LexP.wrd, hl], ⟨⟨_, rfl⟩⟩⟩
 ·have hl' : LexP.ltr c = false := by simpa using hl
  clear hl
  have e : LexP.wrd c = LexP.dig c := by simp [LexP.wrd, hl']
  rw [e]
  go_enter Tryd.func45, Tryd.ntmps45
  go_wp2_with (first | (go_at_call 44; refine (lex_letter.calls _ _ _ HC.out).mono ?_; rintro e w' ⟨rfl, ⟨nd, rfl⟩⟩; rw [hl']) | (go_at_call 46; refine (lex_digit.calls _ _ _ HD.out).mono ?_; rintro e w' ⟨rfl, ⟨nd2, rfl⟩⟩))
  go_ret
  exact ⟨rfl, ⟨⟨_, rfl⟩⟩⟩
set_option maxHeartbeats 4000000 in
set_option maxRecDepth 100000 in
theorem eol_calls (c : UInt8) (w : World) :
  Calls Tryd.prog 28 #[.int .u8 c.toNat] w fun e w' => e = .returned (.bool (LexP.noEol c)) ∧ Drawn0 w w' := by
 have e : LexP.noEol c = ((c.toNat : Int) != 10) := by
  unfold LexP.noEol
  by_cases h : c.toNat = 10
  ·rw [h]; rfl
  ·have h2 : (c.toNat == 10) = false := by simpa using h
   have h3 : ((c.toNat : Int) == 10) = false := by rw [beq_eq_false_iff_ne]; omega
   simp [bne, h2, h3]
 rw [e]
 go_enter Tryd.func28, Tryd.ntmps28
 go_wp2
 go_ret
 exact ⟨rfl, Drawn0.refl _⟩
set_option maxHeartbeats 4000000 in
set_option maxRecDepth 100000 in
theorem span_digit (s : ByteArray) (w : World) (hs : s.size ≤ 9223372036854775807) :
  Calls Tryd.prog 27 #[.string s, .func (.func 46) #[] #[]] w fun e w' => e = .returned (.int .i64 (s.data.toList.takeWhile LexP.dig).length) ∧ Drawn0 w w' := by
 go_enter Tryd.func27, Tryd.ntmps27
 go_wp2
 go_loopg [5] s.size (fun kq v5 w' => ∃ k : Nat, v5 = .int .i64 k ∧ k ≤ s.size ∧ kq = s.size - k ∧ Aside0 (k + ((s.data.toList.drop k).takeWhile LexP.dig).length = (s.data.toList.takeWhile LexP.dig).length) ∧ Aside0 (Drawn0 w w'))
 case atStart => exact ⟨0, rfl, by omega, by omega, ⟨by simp⟩, ⟨Drawn0.refl w⟩⟩
 case round =>
  obtain ⟨k, rfl, hk, hq, HE, HD⟩ := hrel
  have HQ := aS hq
  clear hq
  by_cases hlt : k < s.size
  ·by_cases hp : LexP.dig (s[k]'hlt) = true
   ·have HS := aS (tw_step LexP.dig s k hlt hp)
    go_wp2_with (first | (go_at_call 46; refine (lex_digit.calls _ _ _ (dig_f _)).mono ?_; rintro e w' ⟨rfl, ⟨nd, rfl⟩⟩; rw [hp]))
    go_roundg (s.size - (k + 1))
    case measure => have := HQ.out; omega
    case rel => exact ⟨k + 1, by go_num, by omega, rfl, ⟨by have := HE.out; have := HS.out; omega⟩, ⟨HD.out.step nd⟩⟩
   ·have hp' : LexP.dig (s[k]'hlt) = false := by simpa using hp
    clear hp
    have HS := aS (tw_stop LexP.dig s k hlt hp')
    go_wp2_with (first | (go_at_call 46; refine (lex_digit.calls _ _ _ (dig_f _)).mono ?_; rintro e w' ⟨rfl, ⟨nd, rfl⟩⟩; rw [hp']))
    go_ret
    exact ⟨by have h1 := HE.out; have h2 := HS.out; rw [← h1, h2]; rfl, HD.out.step nd⟩
  ·have HS := aS (tw_end LexP.dig s k (by omega))
   go_wp2
   go_ret
   exact ⟨by have h1 := HE.out; have h2 := HS.out; rw [← h1, h2]; rfl, HD.out⟩
set_option maxHeartbeats 4000000 in
set_option maxRecDepth 100000 in
theorem span_word (s : ByteArray) (w : World) (hs : s.size ≤ 9223372036854775807) :
  Calls Tryd.prog 27 #[.string s, .func (.func 45) #[] #[]] w fun e w' => e = .returned (.int .i64 (s.data.toList.takeWhile LexP.wrd).length) ∧ Drawn0 w w' := by
 go_enter Tryd.func27, Tryd.ntmps27
 go_wp2
 go_loopg [5] s.size (fun kq v5 w' => ∃ k : Nat, v5 = .int .i64 k ∧ k ≤ s.size ∧ kq = s.size - k ∧ Aside0 (k + ((s.data.toList.drop k).takeWhile LexP.wrd).length = (s.data.toList.takeWhile LexP.wrd).length) ∧ Aside0 (Drawn0 w w'))
 case atStart => exact ⟨0, rfl, by omega, by omega, ⟨by simp⟩, ⟨Drawn0.refl w⟩⟩
 case round =>
  obtain ⟨k, rfl, hk, hq, HE, HD⟩ := hrel
  have HQ := aS hq
  clear hq
  by_cases hlt : k < s.size
  ·by_cases hp : LexP.wrd (s[k]'hlt) = true
   ·have HS := aS (tw_step LexP.wrd s k hlt hp)
    go_wp2_with (first | (go_at_call 45; refine (lword_calls _ _).mono ?_; rintro e w' ⟨rfl, ⟨nd, rfl⟩⟩; rw [hp]))
    go_roundg (s.size - (k + 1))
    case measure => have := HQ.out; omega
    case rel => exact ⟨k + 1, by go_num, by omega, rfl, ⟨by have := HE.out; have := HS.out; omega⟩, ⟨HD.out.step nd⟩⟩
   ·have hp' : LexP.wrd (s[k]'hlt) = false := by simpa using hp
    clear hp
    have HS := aS (tw_stop LexP.wrd s k hlt hp')
    go_wp2_with (first | (go_at_call 45; refine (lword_calls _ _).mono ?_; rintro e w' ⟨rfl, ⟨nd, rfl⟩⟩; rw [hp']))
    go_ret
    exact ⟨by have h1 := HE.out; have h2 := HS.out; rw [← h1, h2]; rfl, HD.out.step nd⟩
  ·have HS := aS (tw_end LexP.wrd s k (by omega))
   go_wp2
   go_ret
   exact ⟨by have h1 := HE.out; have h2 := HS.out; rw [← h1, h2]; rfl, HD.out⟩
set_option maxHeartbeats 4000000 in
set_option maxRecDepth 100000 in
theorem span_eol (s : ByteArray) (w : World) (hs : s.size ≤ 9223372036854775807) :
  Calls Tryd.prog 27 #[.string s, .func (.func 28) #[] #[]] w fun e w' => e = .returned (.int .i64 (s.data.toList.takeWhile LexP.noEol).length) ∧ Drawn0 w w' := by
 go_enter Tryd.func27, Tryd.ntmps27
 go_wp2
 go_loopg [5] s.size (fun kq v5 w' => ∃ k : Nat, v5 = .int .i64 k ∧ k ≤ s.size ∧ kq = s.size - k ∧ Aside0 (k + ((s.data.toList.drop k).takeWhile LexP.noEol).length = (s.data.toList.takeWhile LexP.noEol).length) ∧ Aside0 (Drawn0 w w'))
 case atStart => exact ⟨0, rfl, by omega, by omega, ⟨by simp⟩, ⟨Drawn0.refl w⟩⟩
 case round =>
  obtain ⟨k, rfl, hk, hq, HE, HD⟩ := hrel
  have HQ := aS hq
  clear hq
  by_cases hlt : k < s.size
  ·by_cases hp : LexP.noEol (s[k]'hlt) = true
   ·have HS := aS (tw_step LexP.noEol s k hlt hp)
    go_wp2_with (first | (go_at_call 28; refine (eol_calls _ _).mono ?_; rintro e w' ⟨rfl, ⟨nd, rfl⟩⟩; rw [hp]))
    go_roundg (s.size - (k + 1))
    case measure => have := HQ.out; omega
    case rel => exact ⟨k + 1, by go_num, by omega, rfl, ⟨by have := HE.out; have := HS.out; omega⟩, ⟨HD.out.step nd⟩⟩
   ·have hp' : LexP.noEol (s[k]'hlt) = false := by simpa using hp
    clear hp
    have HS := aS (tw_stop LexP.noEol s k hlt hp')
    go_wp2_with (first | (go_at_call 28; refine (eol_calls _ _).mono ?_; rintro e w' ⟨rfl, ⟨nd, rfl⟩⟩; rw [hp']))
    go_ret
    exact ⟨by have h1 := HE.out; have h2 := HS.out; rw [← h1, h2]; rfl, HD.out.step nd⟩
  ·have HS := aS (tw_end LexP.noEol s k (by omega))
   go_wp2
   go_ret
   exact ⟨by have h1 := HE.out; have h2 := HS.out; rw [← h1, h2]; rfl, HD.out⟩
def signsB : List ByteArray := [⟨#[60, 61]⟩, ⟨#[61, 61]⟩, ⟨#[33, 61]⟩, ⟨#[40]⟩, ⟨#[41]⟩, ⟨#[123]⟩, ⟨#[125]⟩, ⟨#[60]⟩, ⟨#[62]⟩, ⟨#[91]⟩, ⟨#[93]⟩, ⟨#[58]⟩, ⟨#[59]⟩, ⟨#[44]⟩, ⟨#[61]⟩, ⟨#[38]⟩, ⟨#[124]⟩, ⟨#[94]⟩, ⟨#[126]⟩, ⟨#[43]⟩, ⟨#[45]⟩, ⟨#[42]⟩, ⟨#[63]⟩, ⟨#[46]⟩, ⟨#[39]⟩]
def signsA : Array Value := (signsB.map Value.string).toArray
def LTab (w : World) : Prop :=
 (∀ j x, signsB[j]? = some x → w.cell? ⟨1, j, none⟩ = some (.string x)) ∧
 (∃ ev, w.cell? ⟨3, 0, none⟩ = some ev ∧ (ev = .nilIface ∨ ∃ te pe, ev = .iface te pe)) ∧
 (∃ ev, w.cell? ⟨4, 0, none⟩ = some ev ∧ (ev = .nilIface ∨ ∃ te pe, ev = .iface te pe))
theorem ltab_below {w w1 : World} (h : LTab w) (hb : Below w.heap.size w w1) : LTab w1 := by
 obtain ⟨h1, ⟨e1, h2, h3⟩, ⟨e2, h4, h5⟩⟩ := h
 exact ⟨fun j x hx => pw_cell_below hb (h1 j x hx), ⟨e1, pw_cell_below hb h2, h3⟩, ⟨e2, pw_cell_below hb h4, h5⟩⟩
theorem cells_add (g j : Nat) : (⟨g, 0, none⟩ : Addr).add j = ⟨g, j, none⟩ := add_plain g j
theorem loadVar_cells {P : Program} (w : World) (g : Nat) (ty : TypeId) (cs : Array Value) (d : TypeDesc) (hg : ∀ (j : Nat) v, cs.toList[j]? = some v → w.cell? ⟨g, j, none⟩ = some v)
  (hu : P.underlying ty = some d) (hd : (match d with | .struct _ | .array _ _ => true | _ => false) = true) (hi : (P.info? ty).map (·.size) = some cs.size) :
  (loadVar ty ⟨g, 0, none⟩).run P w = .ok (.agg cs) w := by
 have hl : (loadCells ⟨g, 0, none⟩ cs.toList.length).run P w = .ok cs.toList.toArray w :=
  run_loadCells_list (P := P) w ⟨g, 0, none⟩ cs.toList (fun j v hv => by rw [cells_add]; exact hg j v hv)
 cases hq : P.info? ty with
 | none => simp [hq] at hi
 | some i =>
  have hs : i.size = cs.size := by simpa [hq] using hi
  have hagg : (isAgg ty).run P w = .ok true w := by
   unfold isAgg
   rw [Sem.run_bind, run_underlying hu w]
   cases d <;> simp_all
  simp only [Array.length_toList, Array.toArray_toList] at hl
  simp [loadVar, Sem.run_bind, hagg, sizeOf, typeInfo, hq, hs, hl]
theorem wpList_load_cells {P : Program} {ops : Array Oper} {rest : List Oper} {o : Oper} {a : Act} {w : World} {Q : Exit → Act → World → Prop} (hgd : o.guard = none) (ty : TypeId) (x : Operand) (ho : o.op = .load ty x)
  (g : Nat) (hx : a.eval x = .pointer (some ⟨g, 0, none⟩)) (cs : Array Value) (d : TypeDesc) (hg : ∀ (j : Nat) v, cs.toList[j]? = some v → w.cell? ⟨g, j, none⟩ = some v)
  (hu : P.underlying ty = some d) (hd : (match d with | .struct _ | .array _ _ => true | _ => false) = true) (hi : (P.info? ty).map (·.size) = some cs.size)
  (h : wpList P ops Q rest (a.put o.dst (.agg cs)) w) : wpList P ops Q (o :: rest) a w :=
 wpList_plain hgd fun K hK => by
  unfold Oper.wp execOp
  simp only [ho, hx, Instr.loadAt, Instr.sureAddr, Sem.run_bind, Sem.run_pure, Result.andThen_ok, loadVar_cells w g ty cs d hg hu hd hi]
  exact hK _ _ h
theorem signsA_cells {w : World} (h : LTab w) : ∀ (j : Nat) v, signsA.toList[j]? = some v → w.cell? ⟨1, j, none⟩ = some v := by
 intro j v hv
 simp only [signsA, List.getElem?_map] at hv
 cases hx : signsB[j]? with
 | none => rw [hx] at hv; simp at hv
 | some x => rw [hx] at hv; simp at hv; subst hv; exact h.1 j x hx
theorem hasPrefix_f (s x : ByteArray) : strings_HasPrefix.f s x = some (x.data.toList.isPrefixOf s.data.toList) := by
 unfold strings_HasPrefix.f stringslite_HasPrefix.f
 rw [ByteArray.toList_eq, ByteArray.toList_eq]
 by_cases h : (s.size : Int) ≥ (x.size : Int)
 ·rw [if_pos h, if_pos (by omega), if_pos (by omega)]
  simp only [Option.bind_some]
  congr 1
  rw [Bool.eq_iff_iff, beq_iff_eq, List.isPrefixOf_iff_prefix, List.prefix_iff_eq_take]
  simp
  constructor
  ·intro h; exact h.symm
  ·intro h; exact h.symm
 ·rw [if_neg h]
  simp only [Option.bind_some]
  congr 1
  rw [eq_comm, Bool.eq_false_iff, ne_eq, List.isPrefixOf_iff_prefix]
  intro hp
  have := hp.length_le
  simp at this
  omega
theorem signs_data : signsB.map (fun x => x.data.toList) = LexP.signs := by decide
theorem sign_run (k : Nat) (hk : k < 25) (w : World) : (Instr.index 103 (.agg signsA) (.int .i64 (k : Int))).run Tryd.prog w = .ok (signsA.toList.getD k undef) w := by
 obtain rfl | rfl | rfl | rfl | rfl | rfl | rfl | rfl | rfl | rfl | rfl | rfl | rfl | rfl | rfl | rfl | rfl | rfl | rfl | rfl | rfl | rfl | rfl | rfl | rfl : k = 0 ∨ k = 1 ∨ k = 2 ∨ k = 3 ∨ k = 4 ∨ k = 5 ∨ k = 6 ∨ k = 7 ∨ k = 8 ∨ k = 9 ∨ k = 10 ∨ k = 11 ∨ k = 12 ∨ k = 13 ∨ k = 14 ∨ k = 15 ∨ k = 16 ∨ k = 17 ∨ k = 18 ∨ k = 19 ∨ k = 20 ∨ k = 21 ∨ k = 22 ∨ k = 23 ∨ k = 24 := by omega
 all_goals kernel_rfl
theorem sign_at (k : Nat) (hk : k < 25) : ∃ x, signsB[k]? = some x ∧ ∀ w : World, (Instr.index 103 (.agg signsA) (.int .i64 (k : Int))).run Tryd.prog w = .ok (.string x) w := by
 have hl : k < signsB.length := by simpa [signsB] using hk
 refine ⟨signsB[k], List.getElem?_eq_getElem hl, fun w => ?_⟩
 rw [sign_run k hk w]
 simp [signsA, List.getD_eq_getElem?_getD, hl]
theorem signs_at (k : Nat) (x : ByteArray) (h : signsB[k]? = some x) : LexP.signs[k]? = some x.data.toList := by
 rw [← signs_data, List.getElem?_map, h]; rfl
def sgnFrom (k : Nat) (l : List UInt8) : Option (List UInt8) := (LexP.signs.drop k).find? (fun x => x.isPrefixOf l)
theorem sgnFrom_hit (k : Nat) (x : ByteArray) (l : List UInt8) (h : signsB[k]? = some x) (hp : x.data.toList.isPrefixOf l = true) : sgnFrom k l = some x.data.toList := by
 have h1 := signs_at k x h
 have hk : k < LexP.signs.length := (List.getElem?_eq_some_iff.1 h1).1
 unfold sgnFrom
 rw [List.drop_eq_getElem_cons hk, (List.getElem?_eq_some_iff.1 h1).2]
 simp [List.find?_cons, hp]
theorem sgnFrom_miss (k : Nat) (x : ByteArray) (l : List UInt8) (h : signsB[k]? = some x) (hp : x.data.toList.isPrefixOf l = false) : sgnFrom k l = sgnFrom (k + 1) l := by
 have h1 := signs_at k x h
 have hk : k < LexP.signs.length := (List.getElem?_eq_some_iff.1 h1).1
 unfold sgnFrom
 rw [List.drop_eq_getElem_cons hk, (List.getElem?_eq_some_iff.1 h1).2]
 simp [List.find?_cons, hp]
def OnePost (o : LexP.Step) (e : Ending) : Prop :=
 match o with
 | .tok k t v => e = .returned (.tuple #[.agg #[.int .i64 (k : Int), .string ⟨t.toArray⟩, .int .i64 (v : Int), .int .i64 0], .bool true])
 | _ => ∃ (k : Int) (t : ByteArray) (n p : Int), e = .returned (.tuple #[.agg #[.int .i64 k, .string t, .int .i64 n, .int .i64 p], .bool false])
theorem sgn_from (l : List UInt8) : LexP.sgn l = match sgnFrom 0 l with | some x => .tok 3 x 0 | none => .err := rfl
theorem sgn_hit (l : List UInt8) (k : Nat) (x : ByteArray) (h1 : sgnFrom 0 l = sgnFrom k l) (h2 : sgnFrom k l = some x.data.toList) : OnePost (LexP.sgn l) (.returned (.tuple #[.agg #[.int .i64 3, .string x, .int .i64 0, .int .i64 0], .bool true])) := by
 rw [sgn_from, h1, h2]
 rfl
theorem sgn_none (l : List UInt8) (h1 : sgnFrom 0 l = sgnFrom 25 l) : OnePost (LexP.sgn l) (.returned (.tuple #[.agg #[.int .i64 0, .string ⟨#[]⟩, .int .i64 0, .int .i64 0], .bool false])) := by
 have h2 : sgnFrom 25 l = none := rfl
 rw [sgn_from, h1, h2]
 exact ⟨0, ⟨#[]⟩, 0, 0, rfl⟩
set_option maxHeartbeats 4000000 in
set_option maxRecDepth 100000 in
theorem sign_calls (s : ByteArray) (w : World) (hG : LTab w) :
  Calls Tryd.prog 48 #[.string s] w fun e w' => OnePost (LexP.sgn s.data.toList) e ∧ Below w.heap.size w w' := by
 have HG := aS hG
 clear hG
 go_enter Tryd.func48, Tryd.ntmps48
 go_wp2_with (first | ((with_reducible refine gate_dst (N := 6) rfl ?_); refine wpList_load_cells rfl 103 (.global 1) rfl 1 rfl signsA _ (signsA_cells (ltab_below HG.out (below_alloc (bR _ _) _))) Tryd.underlying103 rfl (by kernel_rfl) ?_))
 go_loopg [7] 25 (fun kq v7 w' => ∃ k m : Nat, v7 = .int .i64 k ∧ k ≤ 25 ∧ Aside0 (kq = 25 - k) ∧ w' = (w.alloc (.cells #[.int .i64 0, .string ⟨#[]⟩, .int .i64 0, .int .i64 0] 37)).drewN m ∧ Aside0 (sgnFrom 0 s.data.toList = sgnFrom k s.data.toList))
 case atStart => exact ⟨0, 0, rfl, by omega, ⟨rfl⟩, rfl, ⟨rfl⟩⟩
 case round =>
  obtain ⟨k, m, rfl, hk, HQ, rfl, HE⟩ := hrel
  by_cases hlt : k < 25
  ·obtain ⟨x, hx, hrun⟩ := sign_at k hlt
   have HX := aS hx
   clear hx
   have HC := aS (hasPrefix_f s x)
   by_cases hp : x.data.toList.isPrefixOf s.data.toList = true
   ·have HP := aS hp
    clear hp
    go_wp2_with (first | (go_at_call 26; refine (strings_HasPrefix.calls _ _ _ _ HC.out).mono ?_; rintro e w' ⟨rfl, ⟨nd, rfl⟩⟩; rw [HP.out]))
    refine bodyPost_ret (v := .tuple #[.agg #[.int .i64 3, .string x, .int .i64 0, .int .i64 0], .bool true]) (by simp [results, Tryd.results48, go_sem]) rfl ⟨sgn_hit _ k x HE.out (sgnFrom_hit k x _ HX.out HP.out), ?_⟩
    exact ((((pw_below_drewN (below_alloc (bR _ _) _) _).setCell (by simp) _).setCell (by simp) _).setCell (by simp) _).setCell (by simp) _
   ·have HP := aS (show x.data.toList.isPrefixOf s.data.toList = false by simpa using hp)
    clear hp
    go_wp2_with (first | (go_at_call 26; refine (strings_HasPrefix.calls _ _ _ _ HC.out).mono ?_; rintro e w' ⟨rfl, ⟨nd, rfl⟩⟩; rw [HP.out]))
    go_roundg (25 - (k + 1))
    case measure => have := HQ.out; omega
    case rel => exact ⟨k + 1, m + nd, by go_num, by omega, ⟨rfl⟩, rfl, ⟨HE.out.trans (sgnFrom_miss k x _ HX.out HP.out)⟩⟩
  ·obtain rfl : k = 25 := by omega
   go_wp2
   refine bodyPost_ret (v := .tuple #[.agg #[.int .i64 0, .string ⟨#[]⟩, .int .i64 0, .int .i64 0], .bool false]) (by simp [results, Tryd.results48, go_sem]) rfl ⟨sgn_none _ HE.out, ?_⟩
   exact ((((pw_below_drewN (below_alloc (bR _ _) _) _).setCell (by simp) _).setCell (by simp) _).setCell (by simp) _).setCell (by simp) _
end Go.Proofs.YtenogedclignmaaDoor.Q
namespace Go.NumPure
theorem numv_le (l : List UInt8) : ∀ (a : Nat), a ≤ LexP.numv a l := by
 induction l with
 | nil => intro a; exact Nat.le_refl _
 | cons c r ih =>
  intro a
  have := ih (LexP.push a c)
  rw [LexP.numv_cons]; unfold LexP.push at *; omega
theorem pu_cons (a : Nat) (c : UInt8) (r : List UInt8) (hc : 48 ≤ c.toNat ∧ c.toNat ≤ 57) : Lib.parseUint10 a (c :: r) = if 1844674407370955162 ≤ a then .range else if 18446744073709551616 ≤ a * 10 + (c.toNat - 48) then .range else Lib.parseUint10 (a * 10 + (c.toNat - 48)) r := by
 simp only [Lib.parseUint10]
 rw [if_pos hc]
theorem pu_nil (a : Nat) : Lib.parseUint10 a [] = .ok a := by simp only [Lib.parseUint10]
theorem parse_digits (l : List UInt8) : ∀ (a : Nat), (∀ c ∈ l, LexP.dig c = true) → a < 18446744073709551616 →
  Lib.parseUint10 a l = if LexP.numv a l < 18446744073709551616 then .ok (LexP.numv a l) else .range := by
 induction l with
 | nil =>
  intro a _ ha
  rw [pu_nil, LexP.numv_nil, if_pos ha]
 | cons c r ih =>
  intro a h ha
  have hc : 48 ≤ c.toNat ∧ c.toNat ≤ 57 := by have := h c (by simp); simpa [LexP.dig] using this
  have hr : ∀ c ∈ r, LexP.dig c = true := fun x hx => h x (by simp [hx])
  have hm := numv_le r (LexP.push a c)
  have hpush : LexP.push a c = a * 10 + (c.toNat - 48) := by unfold LexP.push; omega
  rw [LexP.numv_cons, pu_cons _ _ _ hc]
  by_cases h1 : 1844674407370955162 ≤ a
  ·rw [if_pos h1, if_neg (by omega)]
  ·rw [if_neg h1]
   by_cases h2 : 18446744073709551616 ≤ a * 10 + (c.toNat - 48)
   ·rw [if_pos h2, if_neg (by omega)]
   ·rw [if_neg h2, ← hpush, ih _ hr (by omega)]
theorem signless_ok (u : Nat) : Lib.signless (.ok u) = if 9223372036854775808 ≤ u then .range else .ok (u : Int) := by simp only [Lib.signless]
theorem atoi_digits (c : UInt8) (r : List UInt8) (h : ∀ x ∈ c :: r, LexP.dig x = true) :
  Lib.atoiAll (c :: r) = if LexP.numv 0 (c :: r) < 9223372036854775808 then .ok (LexP.numv 0 (c :: r) : Int) else .range := by
 have hc : 48 ≤ c.toNat ∧ c.toNat ≤ 57 := by have := h c (by simp); simpa [LexP.dig] using this
 rw [Lib.atoiAll_plain c r (by omega) (by omega)]
 have hp : Lib.parseMag (c :: r) = if LexP.numv 0 (c :: r) < 18446744073709551616 then .ok (LexP.numv 0 (c :: r)) else .range := by
  unfold Lib.parseMag
  rw [if_neg (by simp), parse_digits _ 0 h (by omega)]
 rw [hp]
 generalize LexP.numv 0 (c :: r) = n
 by_cases h1 : n < 18446744073709551616
 ·rw [if_pos h1, signless_ok]
  by_cases h2 : n < 9223372036854775808
  ·rw [if_pos h2, if_neg (by omega)]
  ·rw [if_neg h2, if_pos (by omega)]
 ·rw [if_neg h1, if_neg (by omega)]; rfl
end Go.NumPure
