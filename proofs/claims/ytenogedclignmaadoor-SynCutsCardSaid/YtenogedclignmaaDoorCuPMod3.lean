/-
  HELPER.
-/
import Derived.Test.YtenogedclignmaaDoorCuPMod2
set_option linter.unusedVariables false
set_option linter.unusedSimpArgs false
namespace Go.Proofs.YtenogedclignmaaDoor.Q
open Go.RowKit Go.Proofs.YtenogedclignmaaDoorW.PrintWords Go.Proofs.YtenogedclignmaaDoorW.PrintLast Go.Proofs.YtenogedclignmaaDoorW.PrintMore
theorem module_done {k n : Nat} {r r' : List Tok} {m : Mdl} (h : moduleP k n [] r = some (.done m r' [])) : txt (looks r) = kModule ∧ n < 16 ∧ ∃ nm ps qs r1 xs, frontP r.tail = some (.ok (nm, ps, qs) r1) ∧ itemsP k 0 [] [] r1 = some (.done xs r' []) ∧ m = ⟨nm, ps, qs, xs⟩ := by
 unfold moduleP at h
 by_cases h0 : txt (looks r) ≠ kModule
 ·rw [if_pos h0] at h; cases r <;> cases h
 rw [if_neg h0] at h
 by_cases h1 : 16 ≤ n
 ·rw [if_pos h1] at h; cases h
 rw [if_neg h1] at h
 refine ⟨Classical.not_not.1 h0, by omega, ?_⟩
 cases hq : frontP r.tail with
 | none => rw [hq] at h; cases h
 | some x =>
  rw [hq] at h
  cases x with
  | bad e t => cases h
  | ok v r1 =>
   obtain ⟨nm, ps, qs⟩ := v
   dsimp only at h
   cases hz : itemsP k 0 [] [] r1 with
   | none => rw [hz] at h; cases h
   | some z =>
    rw [hz] at h
    cases z with
    | done xs r3 fs2 => cases h; exact ⟨nm, ps, qs, r1, xs, rfl, hz, rfl⟩
    | stop fs2 r3 => cases h
    | bad e t fs2 => cases h
theorem module_is {k n : Nat} {t : Tok} {r r1 : List Tok} {nm : ByteArray} {ps : List ByteArray} {qs : List Prt} (h0 : txt t = kModule) (h1 : n < 16) (h2 : frontP r = some (.ok (nm, ps, qs) r1)) (fs : List Wr) : moduleP k n fs (t :: r) = (match itemsP k 0 [] fs r1 with
  | none => none
  | some (.done xs r2 fs2) => some (.done ⟨nm, ps, qs, xs⟩ r2 fs2)
  | some (.stop fs2 r2) => some (.stop fs2 r2)
  | some (.bad e t fs2) => some (.bad e t fs2)) := by
 unfold moduleP
 rw [if_neg (by intro q; exact q h0), if_neg (by omega), List.tail_cons, h2]
 rfl
theorem txt_cons {r : List Tok} (h : txt (looks r) = kModule) : ∃ t r1, r = t :: r1 ∧ txt t = kModule := by
 cases r with
 | nil => exact absurd h (by decide)
 | cons t r1 => exact ⟨t, r1, rfl, h⟩
theorem module_suf {k n : Nat} {r r' : List Tok} {m : Mdl} (h : moduleP k n [] r = some (.done m r' [])) : ∃ t u, r = t :: u ++ r' ∧ txt t = kModule := by
 obtain ⟨h0, _, nm, ps, qs, r1, xs, hf, hi, _⟩ := module_done h
 obtain ⟨t, r0, rfl, ht⟩ := txt_cons h0
 have h1 := (fine_front _ _ hf).1
 have h2 := (items_suf _ _ _ _ _ _ hi).trans h1
 obtain ⟨u, hu⟩ := h2
 exact ⟨t, u, by rw [List.tail_cons] at hu; rw [← hu]; rfl, ht⟩
theorem modules_grow : ∀ (k n : Nat) (ms : List Mdl) (fs : List Wr) (r : List Tok) (y : List Mdl × List Wr), modulesP k n ms fs r = some y → fs.length ≤ y.2.length := by
 intro k
 induction k with
 | zero => intro n ms fs r y h; unfold modulesP at h; cases h
 | succ k ih =>
  intro n ms fs r y h
  rw [modulesP] at h
  by_cases h0 : r = [] ∨ overP fs = true
  ·rw [if_pos h0] at h; cases h; exact Nat.le_refl _
  ·rw [if_neg h0] at h
   have hg : ∀ z, moduleP k n fs r = some z → (match z with | .done _ _ gs => fs.length ≤ gs.length | .stop gs _ => fs.length ≤ gs.length | .bad _ _ gs => fs.length ≤ gs.length) := by
    intro z hz
    unfold moduleP at hz
    by_cases h0 : txt (looks r) ≠ kModule
    ·rw [if_pos h0] at hz
     cases r with
     | nil => cases hz; exact Nat.le_refl _
     | cons t r1 => cases hz; exact Nat.le_refl _
    rw [if_neg h0] at hz
    by_cases h1 : 16 ≤ n
    ·rw [if_pos h1] at hz; cases hz; exact Nat.le_refl _
    rw [if_neg h1] at hz
    cases hq : frontP r.tail with
    | none => rw [hq] at hz; cases hz
    | some x =>
     rw [hq] at hz
     cases x with
     | bad e t => cases hz; exact Nat.le_refl _
     | ok v r1 =>
      obtain ⟨nm, ps, qs⟩ := v
      dsimp only at hz
      cases hi : itemsP k 0 [] fs r1 with
      | none => rw [hi] at hz; cases hz
      | some w =>
       have := items_grow _ _ _ _ _ _ hi
       rw [hi] at hz
       cases w <;> cases hz <;> exact this
   cases hz : moduleP k n fs r with
   | none => rw [hz] at h; cases h
   | some z =>
    have hg := hg z hz
    rw [hz] at h
    cases z with
    | done m r1 fs1 => exact Nat.le_trans hg (ih _ _ _ _ _ h)
    | stop fs1 r1 => exact Nat.le_trans hg (ih _ _ _ _ _ h)
    | bad e t fs1 =>
     dsimp only at h
     by_cases ho : overP (fs1 ++ [(e, t)]) = true
     ·rw [if_pos ho] at h; have := ih _ _ _ _ _ h; simp only [List.length_append] at this; simp only at hg; omega
     ·rw [if_neg ho] at h; have := ih _ _ _ _ _ h; simp only [List.length_append] at this; simp only at hg; omega
theorem modules_step {k n : Nat} {ms A : List Mdl} {r : List Tok} (h : modulesP (k + 1) n ms [] r = some (A, [])) : (r = [] ∧ A = ms) ∨ ∃ t u r1 m, r = t :: u ++ r1 ∧ txt t = kModule ∧ n < 16 ∧ moduleP k n [] (t :: u ++ r1) = some (.done m r1 []) ∧ modulesP k (n + 1) (ms ++ [m]) [] r1 = some (A, []) := by
 rw [modulesP] at h
 by_cases h0 : r = [] ∨ overP ([] : List Wr) = true
 ·rw [if_pos h0] at h
  cases h
  exact .inl ⟨h0.resolve_right (by decide), rfl⟩
 ·rw [if_neg h0] at h
  cases hz : moduleP k n [] r with
  | none => rw [hz] at h; cases h
  | some z =>
   rw [hz] at h
   cases z with
   | done m r1 fs1 =>
    have hg := modules_grow _ _ _ _ _ _ h
    have : fs1 = [] := List.eq_nil_of_length_eq_zero (by simpa using hg)
    subst this
    obtain ⟨t, u, rfl, ht⟩ := module_suf hz
    obtain ⟨_, h16, _⟩ := module_done hz
    refine .inr ⟨t, u, r1, m, rfl, ht, h16, hz, ?_⟩
    have hb : begunM n (t :: u ++ r1) = n + 1 := by
     unfold begunM
     rw [if_neg]
     intro q
     rcases q with q | q
     ·exact q ht
     ·omega
    rw [← hb]; exact h
   | stop fs1 r1 =>
    have hg := modules_grow _ _ _ _ _ _ h
    have : fs1 = [] := List.eq_nil_of_length_eq_zero (by simpa using hg)
    subst this
    have := module_stop _ _ _ _ _ _ hz
    exact absurd this (by decide)
   | bad e t fs1 =>
    dsimp only at h
    by_cases ho : overP (fs1 ++ [(e, t)]) = true
    ·rw [if_pos ho] at h; have := modules_grow _ _ _ _ _ _ h; simp at this
    ·rw [if_neg ho] at h; have := modules_grow _ _ _ _ _ _ h; simp at this
theorem modules_next {k n : Nat} {ms : List Mdl} {t : Tok} {u r1 : List Tok} {m : Mdl} (ht : txt t = kModule) (hn : n < 16) (h : moduleP k n [] (t :: u ++ r1) = some (.done m r1 [])) : modulesP (k + 1) n ms [] (t :: u ++ r1) = modulesP k (n + 1) (ms ++ [m]) [] r1 := by
 have hb : begunM n (t :: u ++ r1) = n + 1 := by
  unfold begunM
  rw [if_neg]
  intro q
  rcases q with q | q
  ·exact q ht
  ·omega
 rw [modulesP, if_neg (by intro q; rcases q with q | q; exact List.cons_ne_nil _ _ q; exact absurd q (by decide)), h]
 dsimp only
 rw [hb]
theorem modules_nil (k n : Nat) (ms : List Mdl) (fs : List Wr) : modulesP (k + 1) n ms fs [] = some (ms, fs) := by rw [modulesP, if_pos (.inl rfl)]
theorem modules_pre : ∀ (k n : Nat) (ms A : List Mdl) (l : List Tok), modulesP k n ms [] l = some (A, []) → ∃ T, A = ms ++ T := by
 intro k
 induction k with
 | zero => intro n ms A l h; unfold modulesP at h; cases h
 | succ k ih =>
  intro n ms A l h
  rcases modules_step h with ⟨_, rfl⟩ | ⟨t, u, r1, m, rfl, ht, hn, hm, hz⟩
  ·exact ⟨[], by simp⟩
  ·obtain ⟨T, rfl⟩ := ih _ _ _ _ hz; exact ⟨m :: T, by simp⟩
theorem suf_app' {r p q : List Tok} (h : r <:+ p ++ q) (hl : q.length ≤ r.length) : ∃ p1, r = p1 ++ q := by
 obtain ⟨w, hw⟩ := List.suffix_of_suffix_length_le (List.suffix_append p q) h hl
 exact ⟨w, hw.symm⟩
theorem suf_app {r p q : List Tok} (h : r <:+ p ++ q) (hl : q.length < r.length) : ∃ p1, r = p1 ++ q := suf_app' h (by omega)
def EndI {α : Type} (y : Option (MR α)) : Prop := y = some (.bad 21 [] []) ∨ y = some (.stop [(21, [])] []) ∨ y = none
theorem cut_items {q : List Tok} : ∀ (k n : Nat) (out xs : List Itm) (p r' : List Tok), itemsP k n out [] (p ++ q) = some (.done xs r' []) → (∃ p', r' = p' ++ q ∧ itemsP k n out [] p = some (.done xs p' [])) ∨ (EndI (itemsP k n out [] p) ∧ r'.length < q.length) := by
 intro k
 induction k with
 | zero => intro n out xs p r' h; unfold itemsP at h; cases h
 | succ k ih =>
  intro n out xs p r' h
  by_cases hp : p = []
  ·subst hp
   right
   refine ⟨.inl ?_, ?_⟩
   ·rw [itemsP]; rfl
   ·rw [List.nil_append] at h
    rcases items_step h with ⟨s, rfl, _, _⟩ | ⟨ht, hn, x, r1, hi, hz⟩
    ·simp
    ·have h1 := (fine_item k n _ _ hi).2
     have h2 := suf_len (items_suf _ _ _ _ _ _ hz)
     omega
  ·rcases items_step h with ⟨s, h1, hs, rfl⟩ | ⟨ht, hn, x, r1, hi, hz⟩
   ·left
    cases p with
    | nil => exact absurd rfl hp
    | cons t p1 =>
     rw [List.cons_append] at h1
     injection h1 with h1 h2
     subst h1
     exact ⟨p1, h2.symm, items_take hs⟩
   ·have ht2 : takeP [125] p = none := by have := take_app hp q [] ht; simpa using this
    have hlk : looks (p ++ q) = looks p := looks_app hp
    have hb : begunP n (p ++ q) = begunP n p := by unfold begunP; rw [hlk]
    have hf := fine_item k n _ _ hi
    have h2 := suf_len (items_suf _ _ _ _ _ _ hz)
    by_cases hlen : q.length < r1.length
    ·obtain ⟨p1, rfl⟩ := suf_app hf.1 hlen
     have hp1 : p1 ≠ [] := fun e => by subst e; simp at hlen
     obtain ⟨u1, hu1⟩ := hf.1
     have hpu : p = u1 ++ p1 := List.append_cancel_right (bs := q) (by rw [← hu1]; simp)
     subst hpu
     rw [List.append_assoc] at hi
     have hi2 := item_any hi p1
     rw [items_next ht2 hp hi2, ← hb]
     exact ih _ _ _ _ _ hz
    ·right
     have hq1 : r'.length < q.length := by
      rcases Nat.lt_or_ge r1.length q.length with h3 | h3
      ·omega
      ·have h4 : r' ≠ r1 := fun e => by
        subst e
        cases k with
        | zero => unfold itemsP at hz; cases hz
        | succ k =>
         rcases items_step hz with ⟨s, e, _, _⟩ | ⟨_, _, x2, r2, hi2, hz2⟩
         ·have := congrArg List.length e; simp at this
         ·have := (fine_item k _ _ _ hi2).2; have := suf_len (items_suf _ _ _ _ _ _ hz2); omega
       have h5 : r'.length ≠ r1.length := fun e => h4 ((items_suf _ _ _ _ _ _ hz).eq_of_length e)
       omega
     refine ⟨?_, hq1⟩
     rcases c_item (q := q) k n p x r1 hi with ⟨p1, hp1, rfl, hi2⟩ | ⟨v2, e, _⟩ | e | e
     ·exfalso
      cases p1 with
      | nil => exact hp1 rfl
      | cons t p2 => simp only [List.cons_append, List.length_cons, List.length_append] at hlen; omega
     ·rw [items_next ht2 hp e]
      cases k with
      | zero => exact .inr (.inr (by rw [itemsP]))
      | succ k => exact .inl (by rw [itemsP]; rfl)
     ·right; left
      rw [itemsP, ht2]; dsimp only; rw [if_neg hp, e]; rfl
     ·right; right
      rw [itemsP, ht2]; dsimp only; rw [if_neg hp, e]
theorem cut_module {q p r' : List Tok} {k n : Nat} {m : Mdl} (hp : p ≠ []) (h : moduleP k n [] (p ++ q) = some (.done m r' [])) : (∃ p', r' = p' ++ q ∧ moduleP k n [] p = some (.done m p' [])) ∨ (EndI (moduleP k n [] p) ∧ r'.length < q.length) := by
 obtain ⟨h0, h1, nm, ps, qs, r1, xs, hf, hi, rfl⟩ := module_done h
 cases p with
 | nil => exact absurd rfl hp
 | cons t p0 =>
  change frontP (p0 ++ q) = _ at hf
  have ht : txt t = kModule := h0
  have hff := fine_front _ _ hf
  have h2 := suf_len (items_suf _ _ _ _ _ _ hi)
  by_cases hlen : q.length ≤ r1.length
  ·obtain ⟨p1, rfl⟩ := suf_app' hff.1 hlen
   obtain ⟨u1, hu1⟩ := hff.1
   have hpu : p0 = u1 ++ p1 := List.append_cancel_right (bs := q) (by rw [← hu1]; simp)
   subst hpu
   rw [List.append_assoc] at hf
   rw [module_is ht h1 (front_any hf p1)]
   rcases cut_items _ _ _ _ _ _ hi with ⟨p2, rfl, hi2⟩ | ⟨e | e | e, hl⟩
   ·rw [hi2]; exact .inl ⟨p2, rfl, rfl⟩
   ·rw [e]; exact .inr ⟨.inl rfl, hl⟩
   ·rw [e]; exact .inr ⟨.inr (.inl rfl), hl⟩
   ·rw [e]; exact .inr ⟨.inr (.inr rfl), hl⟩
  ·right
   refine ⟨?_, by omega⟩
   rcases c_front (q := q) p0 _ r1 hf with ⟨p1, hp1, rfl, _⟩ | ⟨⟨nm2, ps2, qs2⟩, e, _⟩ | e | e
   ·exfalso; simp only [List.length_append] at hlen; omega
   ·rw [module_is ht h1 e]
    cases k with
    | zero => exact .inr (.inr (by rw [itemsP]))
    | succ k => exact .inl (by rw [itemsP]; rfl)
   ·left; unfold moduleP; rw [if_neg (by intro q; exact q ht), if_neg (by omega), List.tail_cons, e]
   ·right; right; unfold moduleP; rw [if_neg (by intro q; exact q ht), if_neg (by omega), List.tail_cons, e]
theorem nm_items : ∀ (k n : Nat) (out xs : List Itm) (r r' : List Tok), itemsP k n out [] r = some (.done xs r' []) → NumT r → ∃ u, r = u ++ r' ∧ ∀ t ∈ u, txt t ≠ kModule := by
 intro k
 induction k with
 | zero => intro n out xs r r' h; unfold itemsP at h; cases h
 | succ k ih =>
  intro n out xs r r' h hn
  rcases items_step h with ⟨s, rfl, hs, _⟩ | ⟨ht, hne, x, r1, hi, hz⟩
  ·exact ⟨[s], rfl, fun t h2 => by rw [List.mem_singleton] at h2; subst h2; rw [hs]; decide⟩
  ·cases r with
   | nil => exact absurd rfl hne
   | cons t r0 =>
    obtain ⟨u0, s, e0, hu0, hs⟩ := n_item hn hi
    obtain ⟨u, e1, hu⟩ : ∃ u1, u0 ++ s :: r1 = u1 ++ r1 ∧ ∀ t ∈ u1, txt t ≠ kModule := ⟨u0 ++ [s], by simp, fun t2 h2 => by
     rcases List.mem_append.1 h2 with h2 | h2
     ·intro e; have := hu0 t2 h2; unfold bd at this; rw [e] at this; exact absurd this (by decide)
     ·rw [List.mem_singleton] at h2; subst h2; rw [hs]; decide⟩
    rw [e1] at e0
    subst e0
    obtain ⟨u2, rfl, hu2⟩ := ih _ _ _ _ _ hz (fun t2 h2 => hn t2 (List.mem_cons_of_mem _ (List.mem_append_right _ h2)))
    refine ⟨t :: u ++ u2, by simp, fun t2 h2 => ?_⟩
    rcases List.mem_append.1 h2 with h2 | h2
    ·rcases List.mem_cons.1 h2 with rfl | h2
     ·intro e
      unfold itemP at hi
      have h0 : keptV (txt (looks (t2 :: (u ++ (u2 ++ r'))))) = 0 := by show keptV (txt t2) = 0; rw [e]; decide
      rw [if_pos h0] at hi
      cases hi
     ·exact hu t2 h2
    ·exact hu2 t2 h2
theorem nm_module {k n : Nat} {t : Tok} {r r' : List Tok} {m : Mdl} (h : moduleP k n [] (t :: r) = some (.done m r' [])) (hn : NumT (t :: r)) : ∃ u, r = u ++ r' ∧ ∀ t ∈ u, txt t ≠ kModule := by
 obtain ⟨h0, h1, nm, ps, qs, r1, xs, hf, hi, rfl⟩ := module_done h
 change frontP r = _ at hf
 obtain ⟨u, rfl, hu⟩ := n_front r (fun t2 h2 => hn t2 (List.mem_cons_of_mem _ h2)) _ _ hf
 obtain ⟨u2, rfl, hu2⟩ := nm_items _ _ _ _ _ _ hi (fun t2 h2 => hn t2 (List.mem_cons_of_mem _ (List.mem_append_right _ h2)))
 refine ⟨u ++ u2, by simp, fun t2 h2 => ?_⟩
 rcases List.mem_append.1 h2 with h2 | h2
 ·intro e; have := hu t2 h2; unfold bd at this; rw [e] at this; exact absurd this (by decide)
 ·exact hu2 t2 h2
theorem cut_modules {q : List Tok} (hq : q ≠ []) : ∀ (k n : Nat) (ms A : List Mdl) (p : List Tok), modulesP k n ms [] (p ++ q) = some (A, []) → NumT (p ++ q) → modulesP k n ms [] p = none ∨ ∃ B T, A = B ++ T ∧ (modulesP k n ms [] p = some (B, []) ∧ txt (looks q) = kModule ∨ modulesP k n ms [] p = some (B, [(21, [])]) ∧ txt (looks q) ≠ kModule) := by
 intro k
 induction k with
 | zero => intro n ms A p h; unfold modulesP at h; cases h
 | succ k ih =>
  intro n ms A p h hn
  by_cases hp : p = []
  ·subst hp
   right
   rw [List.nil_append] at h
   rcases modules_step h with ⟨rfl, _⟩ | ⟨t, u, r1, m, rfl, ht, _, _, hz⟩
   ·exact absurd rfl hq
   ·obtain ⟨T, rfl⟩ := modules_pre _ _ _ _ _ hz
    exact ⟨ms, m :: T, by simp, .inl ⟨modules_nil _ _ _ _, ht⟩⟩
  ·rcases modules_step h with ⟨e, _⟩ | ⟨t, u, r1, m, e, ht, h16, hm, hz⟩
   ·exact absurd (List.append_eq_nil_iff.1 e).1 hp
   ·rw [← e] at hm
    rcases cut_module hp hm with ⟨p1, rfl, hm2⟩ | ⟨hE, hl⟩
    ·obtain ⟨t2, u2, rfl, ht2⟩ := module_suf hm2
     rw [modules_next ht2 h16 hm2]
     exact ih _ _ _ _ hz (fun t3 h3 => hn t3 (by
      rcases List.mem_append.1 h3 with h3 | h3
      ·exact List.mem_append_left _ (List.mem_append_right _ h3)
      ·exact List.mem_append_right _ h3))
    ·obtain ⟨T, hT⟩ := modules_pre _ _ _ _ _ hz
     have hA : A = ms ++ (m :: T) := by rw [hT]; simp
     have hnm : txt (looks q) ≠ kModule := by
      cases p with
      | nil => exact absurd rfl hp
      | cons t0 p0 =>
       obtain ⟨u3, hu3, hb⟩ := nm_module hm hn
       have hu4 : p0 ++ q = u3 ++ r1 := hu3
       have hlt : p0.length < u3.length := by have := congrArg List.length hu4; simp only [List.length_append] at this; omega
       have hpre : p0 <+: u3 := List.prefix_of_prefix_length_le ⟨q, rfl⟩ ⟨r1, hu4.symm⟩ (by omega)
       obtain ⟨w, rfl⟩ := hpre
       cases w with
       | nil => simp at hlt
       | cons t4 w =>
        have : q = t4 :: w ++ r1 := List.append_cancel_left (show p0 ++ q = p0 ++ (t4 :: w ++ r1) by rw [hu4, List.append_assoc])
        subst this
        exact hb t4 (by simp)
     rcases hE with e | e | e
     ·have hs : modulesP (k + 1) n ms [] p = modulesP k (begunM n p) ms ([] ++ [(21, [])]) [] := by
       rw [modulesP, if_neg (by intro q; rcases q with q | q; exact hp q; exact absurd q (by decide)), e]
       show (if overP ([] ++ [((21 : Int), ([] : List Tok))]) = true then modulesP k (begunM n p) ms ([] ++ [(21, [])]) [] else _) = _
       rw [if_pos (show overP ([] ++ [((21 : Int), ([] : List Tok))]) = true by decide)]
      rw [hs]
      cases k with
      | zero => left; rw [modulesP]
      | succ k => right; exact ⟨ms, m :: T, hA, .inr ⟨modules_nil _ _ _ _, hnm⟩⟩
     ·have hs : modulesP (k + 1) n ms [] p = modulesP k (begunM n p) ms [(21, [])] [] := by
       rw [modulesP, if_neg (by intro q; rcases q with q | q; exact hp q; exact absurd q (by decide)), e]
      rw [hs]
      cases k with
      | zero => left; rw [modulesP]
      | succ k => right; exact ⟨ms, m :: T, hA, .inr ⟨modules_nil _ _ _ _, hnm⟩⟩
     ·left
      rw [modulesP, if_neg (by intro q; rcases q with q | q; exact hp q; exact absurd q (by decide)), e]
end Go.Proofs.YtenogedclignmaaDoor.Q
