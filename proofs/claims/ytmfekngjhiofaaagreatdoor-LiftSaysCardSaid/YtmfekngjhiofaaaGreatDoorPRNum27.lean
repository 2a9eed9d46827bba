/-
  Plain: the document's numerals (layer 27) are strconv.Itoa's.
-/
import Derived.Test.YtmfekngjhiofaaaGreatDoorQx13
import Derived.Test.YtmfekngjhiofaaaGreatDoorHTab
import Derived.Lib.ItoaLen
set_option linter.unusedVariables false
set_option linter.unusedSimpArgs false
namespace Go.Proofs.YtmfekngjhiofaaaGreatDoor.Q
open Go.RowKit Go.Proofs.YtmfekngjhiofaaaGreatDoorW.PrintWords Go.Proofs.YtmfekngjhiofaaaGreatDoorW.PrintLast Go.Proofs.YtmfekngjhiofaaaGreatDoorW.PrintMore
theorem digit_str (u : Nat) (x : Int) (hx : x = 48 + ((u % 10 : Nat) : Int)) : strOfNums [x % 256] = ⟨#[UInt8.ofNat (48 + u % 10)]⟩ := by
  unfold strOfNums
  have : (x % 256).toNat = 48 + u % 10 := by omega
  simp [this]
theorem app_str (a b : ByteArray) : a ++ b = ⟨(a.data.toList ++ b.data.toList).toArray⟩ := by
  apply ByteArray.ext
  rw [ByteArray.data_append]
  apply Array.toList_inj.1
  simp
theorem digs_big {u : Nat} (h : ¬ u < 10) : Lib.decDigits u = Lib.decDigits (u / 10) ++ [UInt8.ofNat (48 + u % 10)] := by rw [Lib.decDigits, dif_neg h]
theorem digs_small {u : Nat} (h : u < 10) : Lib.decDigits u = [UInt8.ofNat (48 + u)] := by rw [Lib.decDigits, dif_pos h]
theorem nDigits_bound (u : Nat) (h : u < 18446744073709551616) : Lib.nDigits u ≤ 20 := by
  by_cases h1 : u < 10
  · rw [Lib.nDigits_small h1]; omega
  · have h2 := Lib.nDigits_big h1
    have := Lib.nDigits_le20 u (by omega)
    omega
theorem num27_l0 (u : Nat) : 0 < u → u ≤ 9223372036854775807 → ∀ (k : Nat) (s : ByteArray), s.size + Lib.nDigits u ≤ 1000 → Lib.nDigits u < k → proofmarkref27_Num.l0 k (u : Int) s = some ⟨(Lib.decDigits u ++ s.data.toList).toArray⟩ := by
  induction u using Nat.strongRecOn with
  | _ u ih =>
    intro h0 h1 k s h2 h3
    obtain ⟨k, rfl⟩ : ∃ m, k = m + 1 := ⟨k - 1, by omega⟩
    have hp := Lib.nDigits_pos u
    have hd := digit_str u (wrap64 (48 + Int.tmod (u : Int) 10)) (by rw [Int.tmod_eq_emod_of_nonneg (by omega)]; unfold wrap64; omega)
    have hq : wrap64 (Int.tdiv (u : Int) 10) = ((u / 10 : Nat) : Int) := by rw [Int.tdiv_eq_ediv_of_nonneg (by omega)]; unfold wrap64; omega
    simp only [proofmarkref27_Num.l0]
    rw [if_pos (by omega)]
    simp only [Option.bind_some]
    rw [hd, hq]
    have hs1 : (⟨#[UInt8.ofNat (48 + u % 10)]⟩ : ByteArray).size = 1 := rfl
    rw [if_pos (by rw [hs1]; omega)]
    by_cases h4 : u < 10
    · have e : u / 10 = 0 := by omega
      obtain ⟨k, rfl⟩ : ∃ m, k = m + 1 := ⟨k - 1, by omega⟩
      rw [e]
      simp only [proofmarkref27_Num.l0]
      rw [if_neg (by simp), if_neg (by rw [ByteArray.toList_eq, app_str]; simp), digs_small h4, app_str]
      simp [Nat.mod_eq_of_lt h4]
    · have hn := Lib.nDigits_big h4
      rw [ih (u / 10) (by omega) (by omega) (by omega) k _ (by rw [ByteArray.size_append, hs1]; omega) (by omega), digs_big h4, app_str]
      simp
theorem num27_zero (k : Nat) : proofmarkref27_Num.l0 (k + 2) 0 ⟨#[]⟩ = some ⟨#[48]⟩ := by
  have hd := digit_str 0 (wrap64 (48 + Int.tmod 0 10)) (by rw [Int.zero_tmod]; unfold wrap64; omega)
  have hq : wrap64 (Int.tdiv 0 10) = 0 := by rw [Int.zero_tdiv]; unfold wrap64; omega
  simp only [proofmarkref27_Num.l0]
  rw [if_neg (by decide), if_pos (by rw [ByteArray.toList_eq])]
  simp only [Option.bind_some]
  rw [hd, hq, if_pos (by decide), if_neg (by decide), if_neg (by rw [ByteArray.toList_eq, app_str]; simp)]
  rfl
theorem num27_f (x : Int) (h0 : 0 ≤ x) (h1 : x ≤ 9223372036854775807) : proofmarkref27_Num.f 30 x = some (numB x) := by
  obtain ⟨u, rfl⟩ : ∃ u : Nat, x = u := ⟨x.toNat, by omega⟩
  unfold proofmarkref27_Num.f numB
  rw [Lib.itoa_nonneg]
  by_cases hu : u = 0
  · subst hu
    rw [digs_small (by omega)]
    exact num27_zero 28
  · rw [num27_l0 u (by omega) (by omega) 30 _ (by have := nDigits_bound u (by omega); show 0 + _ ≤ _; omega) (by have := nDigits_bound u (by omega); omega)]
    simp
end Go.Proofs.YtmfekngjhiofaaaGreatDoor.Q
