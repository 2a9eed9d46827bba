/-
  HELPER.
-/
import Derived.Test.YtenogedclignmaaDoorCuK25
import Derived.Test.YtenogedclignmaaDoorCuPMod3
set_option linter.unusedVariables false
set_option linter.unusedSimpArgs false
namespace Go.Proofs.YtenogedclignmaaDoor.Q
open Go.NumPure Go.RowKit Go.Proofs.YtenogedclignmaaDoorW.PrintWords Go.Proofs.YtenogedclignmaaDoorW.PrintLast Go.Proofs.YtenogedclignmaaDoorW.PrintMore
theorem prs_fuel {k : Nat} {l : List Tok} {y : List Mdl × List Wr} (h : modulesP k 0 [] [] l = some y) : prs l = some y := by
 obtain ⟨z, hz⟩ := prs_some l
 have h1 := mono_modules' (Nat.le_max_left k (12 * l.length + 3)) 0 [] [] l y h
 have h2 := mono_modules' (Nat.le_max_right k (12 * l.length + 3)) 0 [] [] l z hz
 rw [h1] at h2
 rw [hz, ← h2]
theorem prs_cut {p q : List Tok} {A : List Mdl} (hq : q ≠ []) (hn : NumT (p ++ q)) (h : prs (p ++ q) = some (A, [])) :
  ∃ B T, A = B ++ T ∧ (prs p = some (B, []) ∧ txt (looks q) = kModule ∨ prs p = some (B, [(21, [])]) ∧ txt (looks q) ≠ kModule) := by
 rcases cut_modules hq _ 0 [] A p h hn with h1 | ⟨B, T, e, h1⟩
 ·exact absurd h1 (tot_modules _ _ _ _ _ (.inl (by rw [List.length_append]; omega)))
 ·refine ⟨B, T, e, ?_⟩
  rcases h1 with ⟨h1, h2⟩ | ⟨h1, h2⟩
  ·exact .inl ⟨prs_fuel h1, h2⟩
  ·exact .inr ⟨prs_fuel h1, h2⟩
theorem bd_heads : ∀ x ∈ bdL, (x.head?.map LexP.dig) = some false := by decide
theorem one_name {l t : List UInt8} {v : Nat} (h : LexP.one l = .tok 1 t v) : ∃ c r, l = c :: r ∧ LexP.ltr c = true ∧ t = l.takeWhile LexP.wrd := by
 cases l with
 | nil => cases h
 | cons c r =>
  rw [LexP.one] at h
  cases hc : LexP.ltr c with
  | true => rw [hc, if_pos rfl] at h; cases h; exact ⟨c, r, rfl, hc, rfl⟩
  | false =>
   rw [hc, if_neg (by decide)] at h
   cases hd : LexP.dig c with
   | true => rw [hd, if_pos rfl] at h; have := (LexP.number_tok h).1; omega
   | false => rw [hd, if_neg (by decide)] at h; have := (LexP.sgn_tok h).1; omega
theorem lex_numT (l : List UInt8) (a : Nat) : NumT ((LexP.lxA l a).1.map toS) := by
 intro t ht
 obtain ⟨u, hu, rfl⟩ := List.mem_map.1 ht
 obtain ⟨h1, h3⟩ := LexP.lxA_good _ _ u hu
 have h4 := (LexP.step_tok h3).2.2
 have ht : txt (toS u) = u.text := by unfold txt toS; simp
 refine ⟨fun h2 => ?_, fun h2 => ?_⟩
 ·have hk : u.kind = 2 := by have h3 : ((u.kind : Nat) : Int) = 2 := h2; omega
  unfold bd
  rw [ht]
  cases hx : u.text with
  | nil => rw [hx] at h1; simp at h1
  | cons c r =>
   rw [hx, LexP.one] at h4
   cases hc : LexP.ltr c with
   | true => rw [hc, if_pos rfl, hk] at h4; cases h4
   | false =>
    rw [hc, if_neg (by decide)] at h4
    cases hd : LexP.dig c with
    | false => rw [hd, if_neg (by decide)] at h4; have := (LexP.sgn_tok h4).1; omega
    | true =>
     cases hq : bdL.contains (c :: r) with
     | false => rfl
     | true =>
      have := bd_heads _ (List.contains_iff_mem.1 hq)
      rw [List.head?_cons, Option.map_some, hd] at this
      cases this
 ·have hk : u.kind = 1 := by have h3 : ((u.kind : Nat) : Int) = 1 := h2; omega
  rw [hk] at h4
  obtain ⟨c, r, e, hc, _⟩ := one_name h4
  rw [ht, e]
  intro q
  cases q
  exact absurd hc (by decide)
theorem lex_cut (l : List UInt8) (n : Nat) (h : n < (LexP.lxA l 0).1.length) :
  LexP.lxA (l.take (LexP.lxA l 0).1[n].pos) 0 = ((LexP.lxA l 0).1.take n, none) ∧ (LexP.lxA l 0).1[n].pos ≤ l.length := by
 obtain ⟨h1, h2, h3, _⟩ := LexP.lxA_cut l.length l 0 (Nat.le_refl _) n _ (.inl ⟨_, List.getElem?_eq_getElem h, rfl⟩)
 rw [Nat.sub_zero] at h3
 exact ⟨h3, by omega⟩
end Go.Proofs.YtenogedclignmaaDoor.Q
