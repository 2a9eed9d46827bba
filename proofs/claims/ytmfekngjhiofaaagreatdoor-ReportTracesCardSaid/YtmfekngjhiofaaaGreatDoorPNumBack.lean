/-
  Plain: a number's digits, read back.
-/
import Derived.Test.YtmfekngjhiofaaaGreatDoorHBack
import Derived.Test.YtmfekngjhiofaaaGreatDoorPNum
set_option linter.unusedVariables false
set_option linter.unusedSimpArgs false
namespace Go.Proofs.YtmfekngjhiofaaaGreatDoor.Q
open Go.RowKit Go.Proofs.YtmfekngjhiofaaaGreatDoorW.PrintWords Go.Proofs.YtmfekngjhiofaaaGreatDoorW.PrintLast Go.Proofs.YtmfekngjhiofaaaGreatDoorW.PrintMore
abbrev stepD (a : Nat) (c : UInt8) : Nat := a * 10 + (c.toNat - 48)
theorem fold_ge : ∀ (l : List UInt8) (a : Nat), a ≤ l.foldl stepD a
  | [], a => Nat.le_refl _
  | c :: r, a => by
    have := fold_ge r (stepD a c)
    rw [List.foldl_cons]
    unfold stepD at this ⊢
    omega
theorem parse_ok : ∀ (l : List UInt8) (a : Nat), (∀ c ∈ l, 48 ≤ c.toNat ∧ c.toNat ≤ 57) → l.foldl stepD a < 1844674407370955161 → Lib.parseUint10 a l = .ok (l.foldl stepD a)
  | [], a, _, _ => rfl
  | c :: r, a, h, hb => by
    have hc := h c (by simp)
    have hg := fold_ge r (stepD a c)
    rw [List.foldl_cons] at hb ⊢
    have ha : stepD a c < 1844674407370955161 := by omega
    simp only [Lib.parseUint10]
    rw [if_pos hc, if_neg (by unfold stepD at ha; omega), if_neg (by unfold stepD at ha; omega)]
    exact parse_ok r (stepD a c) (fun z hz => h z (List.mem_cons_of_mem _ hz)) hb
theorem atoi_small (u : Nat) (h : u ≤ 65535) : Lib.atoiAll (Lib.decDigits u) = .ok (u : Int) := by
  have hd := dec_digit u
  have hv := decVal_dec u
  have hp := parse_ok (Lib.decDigits u) 0 hd (by show decVal (Lib.decDigits u) < _; rw [hv]; omega)
  have hp2 : Lib.parseUint10 0 (Lib.decDigits u) = .ok u := by rw [hp]; show Lib.NumEnd.ok (decVal (Lib.decDigits u)) = _; rw [hv]
  cases hq : Lib.decDigits u with
  | nil =>
    rw [Lib.decDigits] at hq
    split at hq <;> simp at hq
  | cons c r =>
    rw [hq] at hp2 hd
    have hc := hd c (by simp)
    rw [Lib.atoiAll_plain c r (by omega) (by omega)]
    unfold Lib.parseMag
    rw [if_neg (by simp), hp2]
    unfold Lib.signless
    simp only
    rw [if_neg (by omega)]
theorem numOk_itoa {x : Int} (h0 : 0 ≤ x) (h1 : x ≤ 65535) {s : ByteArray} (hs : s.data.toList = Lib.itoa x) : numOk s = true ∧ numV s = x := by
  have ha : atoiV s = some x := by
    unfold atoiV
    rw [hs]
    unfold Lib.itoa
    rw [if_neg (by omega), atoi_small x.toNat (by omega)]
    simp only
    rw [Int.toNat_of_nonneg h0]
  unfold numOk numV
  rw [ha]
  refine ⟨?_, rfl⟩
  simp only [Bool.and_eq_true, decide_eq_true_eq, beq_iff_eq]
  refine ⟨⟨h0, h1⟩, ?_⟩
  rw [ByteArray.toList_eq, ByteArray.toList_eq, hs]
  unfold numB
  simp
theorem numOk_text {s : ByteArray} (h : numOk s = true) : 0 ≤ numV s ∧ numV s ≤ 65535 ∧ s.data.toList = Lib.itoa (numV s) := by
  unfold numOk at h
  unfold numV
  split at h
  · rename_i v hv
    rw [hv]
    simp only [Bool.and_eq_true, decide_eq_true_eq, beq_iff_eq] at h
    refine ⟨h.1.1, h.1.2, ?_⟩
    have := h.2
    rw [ByteArray.toList_eq, ByteArray.toList_eq] at this
    rw [← this]
    unfold numB
    simp
  · cases h
end Go.Proofs.YtmfekngjhiofaaaGreatDoor.Q
