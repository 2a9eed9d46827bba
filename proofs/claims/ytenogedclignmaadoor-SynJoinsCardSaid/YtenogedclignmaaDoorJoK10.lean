/-
  HELPER.
-/
import Derived.Test.YtenogedclignmaaDoorPlK10
import Derived.Test.YtenogedclignmaaDoorPlKA
import Derived.Test.YtenogedclignmaaDoorJoWords
import Derived.Test.YtenogedclignmaaDoorPlK9
set_option linter.unusedVariables false
set_option linter.unusedSimpArgs false
namespace Go.Proofs.YtenogedclignmaaDoor.Q
open Go.RowKit Go.Proofs.YtenogedclignmaaDoorW.PrintWords Go.Proofs.YtenogedclignmaaDoorW.PrintLast Go.Proofs.YtenogedclignmaaDoorW.PrintMore
def Le {β : Type} (x x' : Option β) : Prop := ∀ y, x = some y → x' = some y
theorem Le.rfl' {β : Type} {x : Option β} : Le x x := fun _ h => h
theorem and_le {α β : Type} {x x' : Option (PR α)} {f f' : α → List Tok → Option (PR β)} (hx : Le x x') (hf : ∀ v r1, Le (f v r1) (f' v r1)) : Le (andThen x f) (andThen x' f') := by
 cases x with
 | none => intro y h; cases h
 | some q =>
  rw [hx q rfl]
  cases q with
  | ok v r1 => exact hf v r1
  | bad e t => exact fun _ h => h
theorem mono_exprs : ∀ k : Nat, (∀ lev r, Le (betweenP k lev r) (betweenP (k + 1) lev r)) ∧ (∀ lev a r, Le (loopP k lev a r) (loopP (k + 1) lev a r)) ∧ (∀ r, Le (exprP k r) (exprP (k + 1) r)) ∧ (∀ r, Le (unaryP k r) (unaryP (k + 1) r)) ∧ (∀ a r, Le (cutsP k a r) (cutsP (k + 1) a r)) ∧ (∀ r, Le (primaryP k r) (primaryP (k + 1) r)) := by
 intro k
 induction k with
 | zero =>
  refine ⟨fun lev r y h => ?_, fun lev a r y h => ?_, fun r y h => ?_, fun r y h => ?_, fun a r y h => ?_, fun r y h => ?_⟩
  ·unfold betweenP at h; cases h
  ·unfold loopP at h; cases h
  ·unfold exprP at h; cases h
  ·unfold unaryP at h; cases h
  ·unfold cutsP at h; cases h
  ·unfold primaryP at h; cases h
 | succ k ih =>
  obtain ⟨hb, hl, he, hu, hc, hp⟩ := ih
  refine ⟨fun lev r => ?_, fun lev a r => ?_, fun r => ?_, fun r => ?_, fun a r => ?_, fun r => ?_⟩
  ·rw [betweenP, betweenP]
   by_cases h : lev = 6
   ·rw [if_pos h, if_pos h]; exact hu r
   ·rw [if_neg h, if_neg h]; exact and_le (hb (lev + 1) r) (fun v r1 => hl lev v r1)
  ·rw [loopP, loopP]
   by_cases h : opP lev (looks r) = 0
   ·rw [if_pos h, if_pos h]; exact Le.rfl'
   ·rw [if_neg h, if_neg h]
    refine and_le (hb (lev + 1) _) (fun v r1 => and_le Le.rfl' (fun v2 r2 => ?_))
    by_cases h6 : lev = 3
    ·rw [if_pos h6, if_pos h6]; exact Le.rfl'
    ·rw [if_neg h6, if_neg h6]; exact hl lev v2 r2
  ·rw [exprP, exprP]
   refine and_le (hb 0 r) (fun v r1 => ?_)
   cases ht : takeP [63] r1 with
   | none => exact Le.rfl'
   | some r2 => exact and_le (he r2) (fun b r3 => and_le Le.rfl' (fun u r4 => and_le (he r4) (fun c r5 => Le.rfl')))
  ·rw [unaryP, unaryP]
   cases ht : takeP [126] r with
   | some r1 => exact and_le (hu r1) (fun v r2 => Le.rfl')
   | none => exact and_le (hp r) (fun v r1 => hc v r1)
  ·rw [cutsP, cutsP]
   cases ht : takeP [91] r with
   | none => exact Le.rfl'
   | some r1 =>
    refine and_le Le.rfl' (fun hi r2 => ?_)
    cases hq : takeP [58] r2 with
    | some r3 => exact and_le Le.rfl' (fun lo r4 => and_le Le.rfl' (fun u r5 => and_le Le.rfl' (fun a' r6 => hc a' r6)))
    | none => exact and_le Le.rfl' (fun u r5 => and_le Le.rfl' (fun a' r6 => hc a' r6))
  ·rw [primaryP, primaryP]
   by_cases h : (looks r).f0 = 2 ∨ (looks r).f0 = 1 ∧ wordP (txt (looks r)) = false
   ·rw [if_pos h, if_pos h]; exact Le.rfl'
   ·rw [if_neg h, if_neg h]
    cases ht : takeP [40] r with
    | some r1 => exact and_le (he r1) (fun a r2 => Le.rfl')
    | none =>
     cases hq : takeP [123] r with
     | some r1 => exact and_le (he r1) (fun a r2 => and_le Le.rfl' (fun u r3 => and_le (he r3) (fun b r4 => Le.rfl')))
     | none =>
      cases hw : wordsL.lookup (txt (looks r)) with
      | none => exact Le.rfl'
      | some op =>
       refine and_le Le.rfl' (fun u r1 => ?_)
       by_cases h19 : op = 19
       ·rw [if_pos h19, if_pos h19]
        exact and_le Le.rfl' (fun nm r2 => and_le Le.rfl' (fun u r3 => and_le (he r3) (fun a r4 => Le.rfl')))
       ·rw [if_neg h19, if_neg h19]
        exact and_le (he r1) (fun a r4 => Le.rfl')
end Go.Proofs.YtenogedclignmaaDoor.Q
