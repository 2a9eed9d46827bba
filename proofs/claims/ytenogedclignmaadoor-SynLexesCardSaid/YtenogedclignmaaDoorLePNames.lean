/-
  HELPER.
-/
import Derived.Test.YtenogedclignmaaDoorLePCuts
set_option linter.unusedVariables false
set_option linter.unusedSimpArgs false
namespace Go.Proofs.YtenogedclignmaaDoor.Q
open Go.NumPure Go.RowKit Go.Proofs.YtenogedclignmaaDoorW.PrintWords Go.Proofs.YtenogedclignmaaDoorW.PrintLast Go.Proofs.YtenogedclignmaaDoorW.PrintMore
theorem modules_at_most : ∀ (k n : Nat) (ms : List Mdl) (fs : List Wr) (r : List Tok) (y : List Mdl × List Wr), n ≤ 16 → modulesP k n ms fs r = some y → y.1.length + n ≤ ms.length + 16 := by
  intro k
  induction k with
  | zero => intro n ms fs r y _ h; unfold modulesP at h; cases h
  | succ k ih =>
    intro n ms fs r y hn h
    unfold modulesP at h
    by_cases h0 : r = [] ∨ overP fs = true
    · rw [if_pos h0] at h; cases h; dsimp only; omega
    · rw [if_neg h0] at h
      have hb : begunM n r ≤ 16 ∧ n ≤ begunM n r := by unfold begunM; split <;> omega
      cases hm : moduleP k n fs r with
      | none => rw [hm] at h; cases h
      | some z =>
        rw [hm] at h
        cases z with
        | done m r1 fs1 =>
          have h1 := ih _ _ _ _ _ hb.1 h
          have h2 : begunM n r = n + 1 := by
            unfold begunM
            rw [if_neg]
            intro q
            unfold moduleP at hm
            rcases q with q | q
            · rw [if_pos q] at hm
              cases r with
              | nil => cases hm
              | cons t r => cases hm
            · by_cases c : txt (looks r) ≠ kModule
              · rw [if_pos c] at hm
                cases r with
                | nil => cases hm
                | cons t r => cases hm
              · rw [if_neg c, if_pos q] at hm; cases hm
          rw [List.length_append, List.length_singleton] at h1
          omega
        | stop fs1 r1 => have := ih _ _ _ _ _ hb.1 h; omega
        | bad e t fs1 =>
          dsimp only at h
          by_cases hov : overP (fs1 ++ [(e, t)]) = true
          · rw [if_pos hov] at h; have := ih _ _ _ _ _ hb.1 h; omega
          · rw [if_neg hov] at h; have := ih _ _ _ _ _ hb.1 h; omega
theorem modules_most' {l : List Tok} {ms : List Mdl} {fs : List Wr} (h : prs l = some (ms, fs)) : ms.length ≤ 16 := by
  have := modules_at_most _ 0 [] [] l _ (by omega) h
  simpa using this
def Named (l : List Tok) (m : Mdl) : Prop := ∃ t ∈ l, t.f0 = 1 ∧ wordP (txt t) = false ∧ m.f0 = t.f1
theorem module_named {l r : List Tok} (hr : r <:+ l) {k n : Nat} {fs fs1 : List Wr} {m : Mdl} {r1 : List Tok} (h : moduleP k n fs r = some (.done m r1 fs1)) : Named l m := by
  unfold moduleP at h
  by_cases h0 : txt (looks r) ≠ kModule
  · rw [if_pos h0] at h
    cases r with
    | nil => cases h
    | cons t r1 => cases h
  · rw [if_neg h0] at h
    by_cases h16 : 16 ≤ n
    · rw [if_pos h16] at h; cases h
    · rw [if_neg h16] at h
      cases hq : frontP r.tail with
      | none => rw [hq] at h; cases h
      | some x =>
        rw [hq] at h
        cases x with
        | bad e t => cases h
        | ok v r2 =>
          obtain ⟨nm, ps, qs⟩ := v
          dsimp only at h
          have hnm : ∃ t ∈ r.tail, t.f0 = 1 ∧ wordP (txt t) = false ∧ nm = t.f1 := by
            unfold frontP at hq
            obtain ⟨nm2, r3, h1, h2⟩ := and_ok' hq
            obtain ⟨ps2, r4, h3, h4⟩ := and_ok' h2
            obtain ⟨u, r5, h5, h6⟩ := and_ok' h4
            obtain ⟨qs2, r6, h7, h8⟩ := and_ok' h6
            obtain ⟨u2, r7, h9, h10⟩ := and_ok' h8
            cases h10
            unfold nameP at h1
            by_cases c : (looks r.tail).f0 = 1 ∧ wordP (txt (looks r.tail)) = false
            · rw [if_pos c] at h1
              obtain ⟨t, r8, e⟩ := looks_ne (r := r.tail) (by rw [c.1]; decide)
              rw [e] at h1 c
              cases h1
              rw [e]
              exact ⟨t, by simp, c.1, c.2, rfl⟩
            · rw [if_neg c] at h1
              exact absurd h1 (by unfold failP; cases r.tail <;> simp)
          obtain ⟨t, ht, g1, g2, g3⟩ := hnm
          have hm : m.f0 = nm := by
            cases hi : itemsP k 0 [] fs r2 with
            | none => rw [hi] at h; cases h
            | some y =>
              rw [hi] at h
              cases y with
              | done xs r3 fs3 => cases h; rfl
              | stop a b => cases h
              | bad a b c => cases h
          exact ⟨t, hr.subset ((List.tail_suffix r).subset ht), g1, g2, by rw [hm, g3]⟩
theorem modules_named (l : List Tok) : ∀ (k n : Nat) (ms : List Mdl) (fs : List Wr) (r : List Tok) (y : List Mdl × List Wr), r <:+ l → Fs l fs r → modulesP k n ms fs r = some y → (∀ m ∈ ms, Named l m) → ∀ m ∈ y.1, Named l m := by
  intro k
  induction k with
  | zero => intro n ms fs r y _ _ h; unfold modulesP at h; cases h
  | succ k ih =>
    intro n ms fs r y hr hf h hms
    unfold modulesP at h
    by_cases h0 : r = [] ∨ overP fs = true
    · rw [if_pos h0] at h; cases h; exact hms
    · rw [if_neg h0] at h
      have hne : r ≠ [] := fun e => h0 (.inl e)
      have ho : overP fs = false := by cases hq : overP fs with | true => exact absurd (.inr hq) h0 | false => rfl
      cases hm : moduleP k n fs r with
      | none => rw [hm] at h; cases h
      | some z =>
        rw [hm] at h
        have hz := module_fs l k n fs r z hne hr hf ho hm
        cases z with
        | done m r1 fs1 =>
          exact ih _ _ _ _ y (hz.2.2.1.trans hr) hz.1 h (fun m2 h2 => by
            rcases List.mem_append.1 h2 with h2 | h2
            · exact hms m2 h2
            · rw [List.mem_singleton] at h2; subst h2; exact module_named hr hm)
        | stop fs1 r1 => exact ih _ _ _ _ y (hz.2.2.trans hr) hz.1 h hms
        | bad e t fs1 =>
          dsimp only at h
          have ht := hz.2.2.1.trans hr
          have ha := (hz.1).add ht hz.2.1 (List.suffix_refl t) hz.2.2.2
          by_cases hov : overP (fs1 ++ [(e, t)]) = true
          · rw [if_pos hov] at h; exact ih _ _ _ _ y ht ha h hms
          · rw [if_neg hov] at h; exact ih _ _ _ _ y ((next_suf e t).trans ht) (ha.less (next_suf e t)) h hms
theorem prs_named {l : List Tok} {ms : List Mdl} {fs : List Wr} (h : prs l = some (ms, fs)) : ∀ m ∈ ms, Named l m :=
  modules_named l _ 0 [] [] l (ms, fs) (List.suffix_refl l) (fs_nil l l) h (fun m hm => by cases hm)
theorem name_alone {l : List UInt8} {a : Nat} {u : LexP.Tok} (hu : u ∈ (LexP.lxA l a).1) (hk : u.kind = 1) : LexP.lxA u.text 0 = ([⟨1, u.text, u.n, 0⟩], none) ∧ ∃ c r, u.text = c :: r ∧ LexP.ltr c = true := by
  obtain ⟨h1, h3⟩ := LexP.lxA_good l a u hu
  have h4 := (LexP.step_tok h3).2.2
  rw [hk] at h4 h3
  obtain ⟨c, r, e, hc, _⟩ := one_name h4
  refine ⟨?_, c, r, e, hc⟩
  rw [LexP.lxA_step _ _ (by rw [e]; simp), h3]
  simp only [List.drop_length, LexP.lxA_nil]
end Go.Proofs.YtenogedclignmaaDoor.Q
