/-
  Plain: what strconv.Atoi tells of digits.
-/
import Derived.Test.YthegiggpkphieaaDoorHLexPure
import Derived.Lib.AtoiAllCases
set_option linter.unusedVariables false
set_option linter.unusedSimpArgs false
namespace Go.NumPure
theorem numv_le (l : List UInt8) : ∀ (a : Nat), a ≤ LexP.numv a l := by
  induction l with
  | nil => intro a; exact Nat.le_refl _
  | cons c r ih =>
    intro a
    have := ih (LexP.push a c)
    rw [LexP.numv_cons]; unfold LexP.push at *; omega
theorem pu_cons (a : Nat) (c : UInt8) (r : List UInt8) (hc : 48 ≤ c.toNat ∧ c.toNat ≤ 57) : Lib.parseUint10 a (c :: r) = if 1844674407370955162 ≤ a then .range else if 18446744073709551616 ≤ a * 10 + (c.toNat - 48) then .range else Lib.parseUint10 (a * 10 + (c.toNat - 48)) r := by
  simp only [Lib.parseUint10]
  rw [if_pos hc]
theorem pu_nil (a : Nat) : Lib.parseUint10 a [] = .ok a := by simp only [Lib.parseUint10]
theorem parse_digits (l : List UInt8) : ∀ (a : Nat), (∀ c ∈ l, LexP.dig c = true) → a < 18446744073709551616 →
    Lib.parseUint10 a l = if LexP.numv a l < 18446744073709551616 then .ok (LexP.numv a l) else .range := by
  induction l with
  | nil =>
    intro a _ ha
    rw [pu_nil, LexP.numv_nil, if_pos ha]
  | cons c r ih =>
    intro a h ha
    have hc : 48 ≤ c.toNat ∧ c.toNat ≤ 57 := by have := h c (by simp); simpa [LexP.dig] using this
    have hr : ∀ c ∈ r, LexP.dig c = true := fun x hx => h x (by simp [hx])
    have hm := numv_le r (LexP.push a c)
    have hpush : LexP.push a c = a * 10 + (c.toNat - 48) := by unfold LexP.push; omega
    rw [LexP.numv_cons, pu_cons _ _ _ hc]
    by_cases h1 : 1844674407370955162 ≤ a
    · rw [if_pos h1, if_neg (by omega)]
    · rw [if_neg h1]
      by_cases h2 : 18446744073709551616 ≤ a * 10 + (c.toNat - 48)
      · rw [if_pos h2, if_neg (by omega)]
      · rw [if_neg h2, ← hpush, ih _ hr (by omega)]
theorem signless_ok (u : Nat) : Lib.signless (.ok u) = if 9223372036854775808 ≤ u then .range else .ok (u : Int) := by simp only [Lib.signless]
theorem atoi_digits (c : UInt8) (r : List UInt8) (h : ∀ x ∈ c :: r, LexP.dig x = true) :
    Lib.atoiAll (c :: r) = if LexP.numv 0 (c :: r) < 9223372036854775808 then .ok (LexP.numv 0 (c :: r) : Int) else .range := by
  have hc : 48 ≤ c.toNat ∧ c.toNat ≤ 57 := by have := h c (by simp); simpa [LexP.dig] using this
  rw [Lib.atoiAll_plain c r (by omega) (by omega)]
  have hp : Lib.parseMag (c :: r) = if LexP.numv 0 (c :: r) < 18446744073709551616 then .ok (LexP.numv 0 (c :: r)) else .range := by
    unfold Lib.parseMag
    rw [if_neg (by simp), parse_digits _ 0 h (by omega)]
  rw [hp]
  generalize LexP.numv 0 (c :: r) = n
  by_cases h1 : n < 18446744073709551616
  · rw [if_pos h1, signless_ok]
    by_cases h2 : n < 9223372036854775808
    · rw [if_pos h2, if_neg (by omega)]
    · rw [if_neg h2, if_pos (by omega)]
  · rw [if_neg h1, if_neg (by omega)]; rfl
end Go.NumPure
