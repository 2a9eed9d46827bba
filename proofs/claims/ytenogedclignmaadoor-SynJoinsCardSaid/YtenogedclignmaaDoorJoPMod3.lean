/-
  HELPER.
-/
import Derived.Test.YtenogedclignmaaDoorJoPMod2
set_option linter.unusedVariables false
set_option linter.unusedSimpArgs false
namespace Go.Proofs.YtenogedclignmaaDoor.Q
open Go.RowKit Go.Proofs.YtenogedclignmaaDoorW.PrintWords Go.Proofs.YtenogedclignmaaDoorW.PrintLast Go.Proofs.YtenogedclignmaaDoorW.PrintMore
theorem module_done {k n : Nat} {r r' : List Tok} {m : Mdl} (h : moduleP k n [] r = some (.done m r' [])) : txt (looks r) = kModule ∧ n < 16 ∧ ∃ nm ps qs r1 xs, frontP r.tail = some (.ok (nm, ps, qs) r1) ∧ itemsP k 0 [] [] r1 = some (.done xs r' []) ∧ m = ⟨nm, ps, qs, xs⟩ := by
 unfold moduleP at h
 by_cases h0 : txt (looks r) ≠ kModule
 ·rw [if_pos h0] at h; cases r <;> cases h
 rw [if_neg h0] at h
 by_cases h1 : 16 ≤ n
 ·rw [if_pos h1] at h; cases h
 rw [if_neg h1] at h
 refine ⟨Classical.not_not.1 h0, by omega, ?_⟩
 cases hq : frontP r.tail with
 | none => rw [hq] at h; cases h
 | some x =>
  rw [hq] at h
  cases x with
  | bad e t => cases h
  | ok v r1 =>
   obtain ⟨nm, ps, qs⟩ := v
   dsimp only at h
   cases hz : itemsP k 0 [] [] r1 with
   | none => rw [hz] at h; cases h
   | some z =>
    rw [hz] at h
    cases z with
    | done xs r3 fs2 => cases h; exact ⟨nm, ps, qs, r1, xs, rfl, hz, rfl⟩
    | stop fs2 r3 => cases h
    | bad e t fs2 => cases h
theorem module_is {k n : Nat} {t : Tok} {r r1 : List Tok} {nm : ByteArray} {ps : List ByteArray} {qs : List Prt} (h0 : txt t = kModule) (h1 : n < 16) (h2 : frontP r = some (.ok (nm, ps, qs) r1)) (fs : List Wr) : moduleP k n fs (t :: r) = (match itemsP k 0 [] fs r1 with
  | none => none
  | some (.done xs r2 fs2) => some (.done ⟨nm, ps, qs, xs⟩ r2 fs2)
  | some (.stop fs2 r2) => some (.stop fs2 r2)
  | some (.bad e t fs2) => some (.bad e t fs2)) := by
 unfold moduleP
 rw [if_neg (by intro q; exact q h0), if_neg (by omega), List.tail_cons, h2]
 rfl
theorem txt_cons {r : List Tok} (h : txt (looks r) = kModule) : ∃ t r1, r = t :: r1 ∧ txt t = kModule := by
 cases r with
 | nil => exact absurd h (by decide)
 | cons t r1 => exact ⟨t, r1, rfl, h⟩
theorem module_suf {k n : Nat} {r r' : List Tok} {m : Mdl} (h : moduleP k n [] r = some (.done m r' [])) : ∃ t u, r = t :: u ++ r' ∧ txt t = kModule := by
 obtain ⟨h0, _, nm, ps, qs, r1, xs, hf, hi, _⟩ := module_done h
 obtain ⟨t, r0, rfl, ht⟩ := txt_cons h0
 have h1 := (fine_front _ _ hf).1
 have h2 := (items_suf _ _ _ _ _ _ hi).trans h1
 obtain ⟨u, hu⟩ := h2
 exact ⟨t, u, by rw [List.tail_cons] at hu; rw [← hu]; rfl, ht⟩
theorem module_any {k n : Nat} {t : Tok} {u r' : List Tok} {m : Mdl} (h : moduleP k n [] (t :: u ++ r') = some (.done m r' [])) (n2 : Nat) (hn2 : n2 < 16) (q : List Tok) : moduleP k n2 [] (t :: u ++ q) = some (.done m q []) := by
 obtain ⟨h0, h1, nm, ps, qs, r1, xs, hf, hi, rfl⟩ := module_done h
 change frontP (u ++ r') = _ at hf
 have h2 := (fine_front _ _ hf).1
 obtain ⟨u2, rfl⟩ : ∃ u2, r1 = u2 ++ r' := by obtain ⟨u2, e⟩ := items_suf _ _ _ _ _ _ hi; exact ⟨u2, e.symm⟩
 obtain ⟨u1, hu1⟩ := h2
 have hu : u = u1 ++ u2 := List.append_cancel_right (bs := r') (by rw [← hu1]; simp)
 subst hu
 rw [List.append_assoc] at hf
 have hf2 := front_any hf (u2 ++ q)
 show moduleP k n2 [] (t :: (u1 ++ u2 ++ q)) = _
 rw [List.append_assoc, module_is (show txt t = kModule from h0) hn2 hf2, items_any _ _ _ _ _ _ hi q]
theorem modules_grow : ∀ (k n : Nat) (ms : List Mdl) (fs : List Wr) (r : List Tok) (y : List Mdl × List Wr), modulesP k n ms fs r = some y → fs.length ≤ y.2.length := by
 intro k
 induction k with
 | zero => intro n ms fs r y h; unfold modulesP at h; cases h
 | succ k ih =>
  intro n ms fs r y h
  rw [modulesP] at h
  by_cases h0 : r = [] ∨ overP fs = true
  ·rw [if_pos h0] at h; cases h; exact Nat.le_refl _
  ·rw [if_neg h0] at h
   have hg : ∀ z, moduleP k n fs r = some z → (match z with | .done _ _ gs => fs.length ≤ gs.length | .stop gs _ => fs.length ≤ gs.length | .bad _ _ gs => fs.length ≤ gs.length) := by
    intro z hz
    unfold moduleP at hz
    by_cases h0 : txt (looks r) ≠ kModule
    ·rw [if_pos h0] at hz
     cases r with
     | nil => cases hz; exact Nat.le_refl _
     | cons t r1 => cases hz; exact Nat.le_refl _
    rw [if_neg h0] at hz
    by_cases h1 : 16 ≤ n
    ·rw [if_pos h1] at hz; cases hz; exact Nat.le_refl _
    rw [if_neg h1] at hz
    cases hq : frontP r.tail with
    | none => rw [hq] at hz; cases hz
    | some x =>
     rw [hq] at hz
     cases x with
     | bad e t => cases hz; exact Nat.le_refl _
     | ok v r1 =>
      obtain ⟨nm, ps, qs⟩ := v
      dsimp only at hz
      cases hi : itemsP k 0 [] fs r1 with
      | none => rw [hi] at hz; cases hz
      | some w =>
       have := items_grow _ _ _ _ _ _ hi
       rw [hi] at hz
       cases w <;> cases hz <;> exact this
   cases hz : moduleP k n fs r with
   | none => rw [hz] at h; cases h
   | some z =>
    have hg := hg z hz
    rw [hz] at h
    cases z with
    | done m r1 fs1 => exact Nat.le_trans hg (ih _ _ _ _ _ h)
    | stop fs1 r1 => exact Nat.le_trans hg (ih _ _ _ _ _ h)
    | bad e t fs1 =>
     dsimp only at h
     by_cases ho : overP (fs1 ++ [(e, t)]) = true
     ·rw [if_pos ho] at h; have := ih _ _ _ _ _ h; simp only [List.length_append] at this; simp only at hg; omega
     ·rw [if_neg ho] at h; have := ih _ _ _ _ _ h; simp only [List.length_append] at this; simp only at hg; omega
theorem modules_step {k n : Nat} {ms A : List Mdl} {r : List Tok} (h : modulesP (k + 1) n ms [] r = some (A, [])) : (r = [] ∧ A = ms) ∨ ∃ t u r1 m, r = t :: u ++ r1 ∧ txt t = kModule ∧ n < 16 ∧ moduleP k n [] (t :: u ++ r1) = some (.done m r1 []) ∧ modulesP k (n + 1) (ms ++ [m]) [] r1 = some (A, []) := by
 rw [modulesP] at h
 by_cases h0 : r = [] ∨ overP ([] : List Wr) = true
 ·rw [if_pos h0] at h
  cases h
  exact .inl ⟨h0.resolve_right (by decide), rfl⟩
 ·rw [if_neg h0] at h
  cases hz : moduleP k n [] r with
  | none => rw [hz] at h; cases h
  | some z =>
   rw [hz] at h
   cases z with
   | done m r1 fs1 =>
    have hg := modules_grow _ _ _ _ _ _ h
    have : fs1 = [] := List.eq_nil_of_length_eq_zero (by simpa using hg)
    subst this
    obtain ⟨t, u, rfl, ht⟩ := module_suf hz
    obtain ⟨_, h16, _⟩ := module_done hz
    refine .inr ⟨t, u, r1, m, rfl, ht, h16, hz, ?_⟩
    have hb : begunM n (t :: u ++ r1) = n + 1 := by
     unfold begunM
     rw [if_neg]
     intro q
     rcases q with q | q
     ·exact q ht
     ·omega
    rw [← hb]; exact h
   | stop fs1 r1 =>
    have hg := modules_grow _ _ _ _ _ _ h
    have : fs1 = [] := List.eq_nil_of_length_eq_zero (by simpa using hg)
    subst this
    have := module_stop _ _ _ _ _ _ hz
    exact absurd this (by decide)
   | bad e t fs1 =>
    dsimp only at h
    by_cases ho : overP (fs1 ++ [(e, t)]) = true
    ·rw [if_pos ho] at h; have := modules_grow _ _ _ _ _ _ h; simp at this
    ·rw [if_neg ho] at h; have := modules_grow _ _ _ _ _ _ h; simp at this
theorem modules_next {k n : Nat} {ms : List Mdl} {t : Tok} {u r1 : List Tok} {m : Mdl} (ht : txt t = kModule) (hn : n < 16) (h : moduleP k n [] (t :: u ++ r1) = some (.done m r1 [])) : modulesP (k + 1) n ms [] (t :: u ++ r1) = modulesP k (n + 1) (ms ++ [m]) [] r1 := by
 have hb : begunM n (t :: u ++ r1) = n + 1 := by
  unfold begunM
  rw [if_neg]
  intro q
  rcases q with q | q
  ·exact q ht
  ·omega
 rw [modulesP, if_neg (by intro q; rcases q with q | q; exact List.cons_ne_nil _ _ q; exact absurd q (by decide)), h]
 dsimp only
 rw [hb]
theorem modules_nil (k n : Nat) (ms : List Mdl) (fs : List Wr) : modulesP (k + 1) n ms fs [] = some (ms, fs) := by rw [modulesP, if_pos (.inl rfl)]
theorem modules_pre : ∀ (k n : Nat) (ms A : List Mdl) (l : List Tok), modulesP k n ms [] l = some (A, []) → ∃ T, A = ms ++ T := by
 intro k
 induction k with
 | zero => intro n ms A l h; unfold modulesP at h; cases h
 | succ k ih =>
  intro n ms A l h
  rcases modules_step h with ⟨_, rfl⟩ | ⟨t, u, r1, m, rfl, ht, hn, hm, hz⟩
  ·exact ⟨[], by simp⟩
  ·obtain ⟨T, rfl⟩ := ih _ _ _ _ hz; exact ⟨m :: T, by simp⟩
theorem modules_shift : ∀ (k n : Nat) (ms T : List Mdl) (l : List Tok), modulesP k n ms [] l = some (ms ++ T, []) → ∀ (n2 : Nat) (ms2 : List Mdl), n2 + T.length ≤ 16 → modulesP k n2 ms2 [] l = some (ms2 ++ T, []) := by
 intro k
 induction k with
 | zero => intro n ms A l h; unfold modulesP at h; cases h
 | succ k ih =>
  intro n ms T l h n2 ms2 h2
  rcases modules_step h with ⟨rfl, e⟩ | ⟨t, u, r1, m, rfl, ht, hn, hm, hz⟩
  ·have : T = [] := by simpa using e
   subst this
   rw [modules_nil]; simp
  ·obtain ⟨T2, e⟩ := modules_pre _ _ _ _ _ hz
   have : T = m :: T2 := by simpa using e
   subst this
   simp only [List.length_cons] at h2
   rw [modules_next ht (by omega) (module_any hm n2 (by omega) r1)]
   have := ih (n + 1) (ms ++ [m]) T2 r1 (by rw [hz]; simp) (n2 + 1) (ms2 ++ [m]) (by omega)
   rw [this]; simp
theorem mono_module' {k k2 : Nat} (h : k ≤ k2) (n : Nat) (fs : List Wr) (r : List Tok) : Le (moduleP k n fs r) (moduleP k2 n fs r) := by
 obtain ⟨d, rfl⟩ : ∃ d, k2 = k + d := ⟨k2 - k, by omega⟩
 clear h
 induction d with
 | zero => exact Le.rfl'
 | succ d ih => exact fun y hy => mono_module (k + d) n fs r y (ih y hy)
theorem modules_join : ∀ (k n : Nat) (ms T : List Mdl) (l1 : List Tok), modulesP k n ms [] l1 = some (ms ++ T, []) → ∀ (l2 : List Tok) (K2 : Nat) (y : List Mdl × List Wr), modulesP K2 (n + T.length) (ms ++ T) [] l2 = some y → ∃ K, modulesP K n ms [] (l1 ++ l2) = some y := by
 intro k
 induction k with
 | zero => intro n ms A l1 h; unfold modulesP at h; cases h
 | succ k ih =>
  intro n ms T l1 h l2 K2 y hy
  rcases modules_step h with ⟨rfl, e⟩ | ⟨t, u, r1, m, rfl, ht, hn, hm, hz⟩
  ·have : T = [] := by simpa using e
   subst this
   exact ⟨K2, by simpa using hy⟩
  ·obtain ⟨T2, e⟩ := modules_pre _ _ _ _ _ hz
   have : T = m :: T2 := by simpa using e
   subst this
   obtain ⟨K, hK⟩ := ih (n + 1) (ms ++ [m]) T2 r1 (by rw [hz]; simp) l2 K2 y (by
    have e1 : n + (m :: T2).length = n + 1 + T2.length := by simp only [List.length_cons]; omega
    rw [← e1]; simpa using hy)
   refine ⟨max k K + 1, ?_⟩
   rw [List.append_assoc]
   rw [modules_next ht hn (mono_module' (Nat.le_max_left k K) _ _ _ _ (module_any hm n hn (r1 ++ l2)))]
   exact mono_modules' (Nat.le_max_right k K) _ _ _ _ _ hK
theorem modules_both {k1 k2 : Nat} {A B : List Mdl} {l1 l2 : List Tok} (h1 : modulesP k1 0 [] [] l1 = some (A, [])) (h2 : modulesP k2 0 [] [] l2 = some (B, [])) (hl : A.length + B.length ≤ 16) (k : Nat) (hk : 12 * (l1 ++ l2).length + 3 ≤ k) : modulesP k 0 [] [] (l1 ++ l2) = some (A ++ B, []) := by
 have h3 := modules_shift k2 0 [] B l2 h2 A.length A hl
 obtain ⟨K, hK⟩ := modules_join k1 0 [] A l1 h1 l2 k2 (A ++ B, []) (by simpa using h3)
 have h4 := mono_modules' (Nat.le_max_left K k) _ _ _ _ _ hK
 cases hq : modulesP k 0 [] [] (l1 ++ l2) with
 | none => exact absurd hq (tot_modules k 0 [] [] _ (.inl hk))
 | some y =>
  have h5 := mono_modules' (Nat.le_max_right K k) _ _ _ _ _ hq
  rw [h4] at h5
  exact h5.symm
end Go.Proofs.YtenogedclignmaaDoor.Q
