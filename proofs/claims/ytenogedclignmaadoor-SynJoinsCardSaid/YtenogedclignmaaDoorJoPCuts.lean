/-
  HELPER.
-/
import Derived.Test.YtenogedclignmaaDoorJoK25
import Derived.Test.YtenogedclignmaaDoorJoPMod3
set_option linter.unusedVariables false
set_option linter.unusedSimpArgs false
namespace Go.Proofs.YtenogedclignmaaDoor.Q
open Go.NumPure Go.RowKit Go.Proofs.YtenogedclignmaaDoorW.PrintWords Go.Proofs.YtenogedclignmaaDoorW.PrintLast Go.Proofs.YtenogedclignmaaDoorW.PrintMore
theorem j_same {a b : List Tok} (h : a.map sg = b.map sg) : J 0 0 a b := fun _ =>
 ⟨by have := congrArg List.length h; simp at this; omega, fun i _ => by rw [← List.getElem?_map, ← List.getElem?_map, h]⟩
theorem prs_fuel {k : Nat} {l : List Tok} {y : List Mdl × List Wr} (h : modulesP k 0 [] [] l = some y) : prs l = some y := by
 obtain ⟨z, hz⟩ := prs_some l
 have h1 := mono_modules' (Nat.le_max_left k (12 * l.length + 3)) 0 [] [] l y h
 have h2 := mono_modules' (Nat.le_max_right k (12 * l.length + 3)) 0 [] [] l z hz
 rw [h1] at h2
 rw [hz, ← h2]
theorem prs_sg {a b : List Tok} (h : a.map sg = b.map sg) {ms : List Mdl} {fs : List Wr} (hp : prs a = some (ms, fs)) : ∃ gs, prs b = some (ms, gs) ∧ FR fs gs := by
 obtain ⟨gs, h1, h2⟩ := sp_modules _ 0 [] [] [] a b (j_same h) .nil (ms, fs) hp
 exact ⟨gs, prs_fuel h1, h2⟩
theorem prs_join {a b : List Tok} {A B : List Mdl} (h1 : prs a = some (A, [])) (h2 : prs b = some (B, [])) (hl : A.length + B.length ≤ 16) : prs (a ++ b) = some (A ++ B, []) := modules_both h1 h2 hl _ (Nat.le_refl _)
theorem modules_most : ∀ (k n : Nat) (ms A : List Mdl) (r : List Tok), n ≤ 16 → modulesP k n ms [] r = some (A, []) → A.length + n ≤ ms.length + 16 := by
 intro k
 induction k with
 | zero => intro n ms A r _ h; unfold modulesP at h; cases h
 | succ k ih =>
  intro n ms A r hn h
  rcases modules_step h with ⟨rfl, rfl⟩ | ⟨t, u, r1, m, rfl, ht, hn16, hm, hz⟩
  ·omega
  ·have := ih _ _ _ _ (by omega) hz
   rw [List.length_append, List.length_singleton] at this
   omega
theorem modules_few {l : List Tok} {A : List Mdl} (h : prs l = some (A, [])) : A.length ≤ 16 := by
 have := modules_most _ 0 [] A l (by omega) h
 simpa using this
theorem sg_mv (d : Nat) (T : List LexP.Tok) : ((T.map (LexP.mv d)).map toS).map sg = (T.map toS).map sg := by
 induction T with
 | nil => rfl
 | cons t T ih => simp only [List.map_cons, ih]; rfl
theorem lex_both (x y : List UInt8) (hx : (LexP.lxA x 0).2 = none) (hy : (LexP.lxA y 0).2 = none) :
  (LexP.lxA (x ++ 10 :: y) 0).2 = none ∧ ((LexP.lxA (x ++ 10 :: y) 0).1.map toS).map sg = (((LexP.lxA x 0).1.map toS) ++ (LexP.lxA y 0).1.map toS).map sg := by
 have h := LexP.lxA_join x.length x 0 y (Nat.le_refl _)
 rw [hx] at h
 simp only at h
 rw [h, LexP.lxA_at y (0 + x.length + 1)]
 refine ⟨by simp [hy], ?_⟩
 simp only [List.map_append]
 rw [sg_mv]
end Go.Proofs.YtenogedclignmaaDoor.Q
