/-
  HELPER.
-/
import Derived.Test.YtenogedclignmaaDoorLeK25
import Derived.Test.YtenogedclignmaaDoorLePCutP
set_option linter.unusedVariables false
set_option linter.unusedSimpArgs false
namespace Go.Proofs.YtenogedclignmaaDoor.Q
open Go.NumPure Go.RowKit Go.Proofs.YtenogedclignmaaDoorW.PrintWords Go.Proofs.YtenogedclignmaaDoorW.PrintLast Go.Proofs.YtenogedclignmaaDoorW.PrintMore
theorem one_name {l t : List UInt8} {v : Nat} (h : LexP.one l = .tok 1 t v) : ∃ c r, l = c :: r ∧ LexP.ltr c = true ∧ t = l.takeWhile LexP.wrd := by
  cases l with
  | nil => cases h
  | cons c r =>
    rw [LexP.one] at h
    cases hc : LexP.ltr c with
    | true => rw [hc, if_pos rfl] at h; cases h; exact ⟨c, r, rfl, hc, rfl⟩
    | false =>
      rw [hc, if_neg (by decide)] at h
      cases hd : LexP.dig c with
      | true => rw [hd, if_pos rfl] at h; have := (LexP.number_tok h).1; omega
      | false => rw [hd, if_neg (by decide)] at h; have := (LexP.sgn_tok h).1; omega
end Go.Proofs.YtenogedclignmaaDoor.Q
