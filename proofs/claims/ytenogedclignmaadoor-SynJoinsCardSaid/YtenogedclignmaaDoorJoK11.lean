/-
  HELPER.
-/
import Derived.Test.YtenogedclignmaaDoorPlK11
import Derived.Test.YtenogedclignmaaDoorPlKA
import Derived.Test.YtenogedclignmaaDoorJoWords
import Derived.Test.YtenogedclignmaaDoorJoK10
set_option linter.unusedVariables false
set_option linter.unusedSimpArgs false
namespace Go.Proofs.YtenogedclignmaaDoor.Q
open Go.RowKit Go.Proofs.YtenogedclignmaaDoorW.PrintWords Go.Proofs.YtenogedclignmaaDoorW.PrintLast Go.Proofs.YtenogedclignmaaDoorW.PrintMore
theorem mono_list {α : Type} (stop : List UInt8) (one one' : List Tok → Option (PR α)) (h : ∀ r, Le (one r) (one' r)) : ∀ (m : Nat) (acc : List α) (r : List Tok), Le (listP stop one m acc r) (listP stop one' m acc r) := by
 intro m
 induction m with
 | zero => intro acc r; unfold listP; exact Le.rfl'
 | succ m ih =>
  intro acc r
  rw [listP, listP]
  refine and_le (h r) (fun v r1 => ?_)
  cases ht : takeP [44] r1 with
  | some r2 => exact ih (acc ++ [v]) r2
  | none => exact Le.rfl'
theorem mono_parts (k : Nat) (x : Itm) (r : List Tok) : Le (partsP k x r) (partsP (k + 1) x r) := by
 have he : ∀ r, Le (exprP k r) (exprP (k + 1) r) := (mono_exprs k).2.2.1
 unfold partsP
 by_cases h1 : x.f0 = 1
 ·rw [if_pos h1, if_pos h1]; exact and_le Le.rfl' fun u r1 => and_le Le.rfl' fun d r2 => and_le Le.rfl' fun u r3 => and_le (he r3) fun e r4 => Le.rfl'
 ·rw [if_neg h1, if_neg h1]
  by_cases h2 : x.f0 = 2
  ·rw [if_pos h2, if_pos h2]; exact Le.rfl'
  ·rw [if_neg h2, if_neg h2]
   have hg : Le (getsP k x r) (getsP (k + 1) x r) := and_le Le.rfl' fun u r1 => and_le (he r1) fun e r2 => Le.rfl'
   by_cases h3 : x.f0 = 3
   ·rw [if_pos h3, if_pos h3]; exact hg
   ·rw [if_neg h3, if_neg h3]
    by_cases h4 : x.f0 = 4
    ·rw [if_pos h4, if_pos h4]; exact hg
    ·rw [if_neg h4, if_neg h4]
     by_cases h5 : x.f0 = 5
     ·rw [if_pos h5, if_pos h5]; exact Le.rfl'
     ·rw [if_neg h5, if_neg h5]
      by_cases h6 : x.f0 = 6
      ·rw [if_pos h6, if_pos h6]; exact and_le Le.rfl' fun u r1 => and_le (he r1) fun a r2 => and_le Le.rfl' fun u r3 => and_le Le.rfl' fun u r4 => and_le (he r4) fun e r5 => and_le Le.rfl' fun u r6 => and_le (he r6) fun i r7 => Le.rfl'
      ·rw [if_neg h6, if_neg h6]
       by_cases h7 : x.f0 = 7
       ·rw [if_pos h7, if_pos h7]
        unfold instP
        refine and_le Le.rfl' fun md r1 => and_le Le.rfl' fun as_ r2 => and_le Le.rfl' fun u r3 => and_le ?_ fun bs r4 => Le.rfl'
        unfold bindsP
        cases ht : takeP [41] r3 with
        | some r4 => exact Le.rfl'
        | none => exact mono_list [41] _ _ (fun r => and_le Le.rfl' fun nm r1 => and_le Le.rfl' fun u r2 => and_le (he r2) fun e r3 => Le.rfl') 16 [] r3
       ·rw [if_neg h7, if_neg h7]; exact and_le Le.rfl' fun u r1 => and_le (he r1) fun e r2 => Le.rfl'
theorem mono_item (k begun : Nat) (r : List Tok) : Le (itemP k begun r) (itemP (k + 1) begun r) := by
 unfold itemP
 by_cases h0 : keptV (txt (looks r)) = 0
 ·rw [if_pos h0, if_pos h0]; exact Le.rfl'
 ·rw [if_neg h0, if_neg h0]
  by_cases h64 : 64 ≤ begun
  ·rw [if_pos h64, if_pos h64]; exact Le.rfl'
  ·rw [if_neg h64, if_neg h64]; exact and_le Le.rfl' fun nm r1 => and_le (mono_parts k _ r1) fun x r2 => Le.rfl'
end Go.Proofs.YtenogedclignmaaDoor.Q
