/-
  Plain: the document's numerals are strconv.Itoa's.
-/
import Derived.Test.YtmfekngjhiofaaaDoorQx17
import Derived.Test.YtmfekngjhiofaaaDoorQx15
import Derived.Test.YtmfekngjhiofaaaDoorHTab
import Derived.Lib.ItoaLen
set_option linter.unusedVariables false
set_option linter.unusedSimpArgs false
namespace Go.Proofs.YtmfekngjhiofaaaDoor.Q
open Go.RowKit Go.Proofs.YtmfekngjhiofaaaDoorW.PrintWords Go.Proofs.YtmfekngjhiofaaaDoorW.PrintLast Go.Proofs.YtmfekngjhiofaaaDoorW.PrintMore
theorem digit_str (u : Nat) (x : Int) (hx : x = 48 + ((u % 10 : Nat) : Int)) : strOfNums [x % 256] = ⟨#[UInt8.ofNat (48 + u % 10)]⟩ := by
  unfold strOfNums
  have : (x % 256).toNat = 48 + u % 10 := by omega
  simp [this]
theorem app_str (a b : ByteArray) : a ++ b = ⟨(a.data.toList ++ b.data.toList).toArray⟩ := by
  apply ByteArray.ext
  rw [ByteArray.data_append]
  apply Array.toList_inj.1
  simp
theorem digs_big {u : Nat} (h : ¬ u < 10) : Lib.decDigits u = Lib.decDigits (u / 10) ++ [UInt8.ofNat (48 + u % 10)] := by rw [Lib.decDigits, dif_neg h]
theorem digs_small {u : Nat} (h : u < 10) : Lib.decDigits u = [UInt8.ofNat (48 + u)] := by rw [Lib.decDigits, dif_pos h]
theorem nDigits_bound (u : Nat) (h : u < 18446744073709551616) : Lib.nDigits u ≤ 20 := by
  by_cases h1 : u < 10
  · rw [Lib.nDigits_small h1]; omega
  · have h2 := Lib.nDigits_big h1
    have := Lib.nDigits_le20 u (by omega)
    omega
theorem num27_l0 (u : Nat) : 0 < u → u ≤ 9223372036854775807 → ∀ (k : Nat) (s : ByteArray), s.size + Lib.nDigits u ≤ 1000 → Lib.nDigits u < k → proofmarkref27_Num.l0 k (u : Int) s = some ⟨(Lib.decDigits u ++ s.data.toList).toArray⟩ := by
  induction u using Nat.strongRecOn with
  | _ u ih =>
    intro h0 h1 k s h2 h3
    obtain ⟨k, rfl⟩ : ∃ m, k = m + 1 := ⟨k - 1, by omega⟩
    have hp := Lib.nDigits_pos u
    have hd := digit_str u (wrap64 (48 + Int.tmod (u : Int) 10)) (by rw [Int.tmod_eq_emod_of_nonneg (by omega)]; unfold wrap64; omega)
    have hq : wrap64 (Int.tdiv (u : Int) 10) = ((u / 10 : Nat) : Int) := by rw [Int.tdiv_eq_ediv_of_nonneg (by omega)]; unfold wrap64; omega
    simp only [proofmarkref27_Num.l0]
    rw [if_pos (by omega)]
    simp only [Option.bind_some]
    rw [hd, hq]
    have hs1 : (⟨#[UInt8.ofNat (48 + u % 10)]⟩ : ByteArray).size = 1 := rfl
    rw [if_pos (by rw [hs1]; omega)]
    by_cases h4 : u < 10
    · have e : u / 10 = 0 := by omega
      obtain ⟨k, rfl⟩ : ∃ m, k = m + 1 := ⟨k - 1, by omega⟩
      rw [e]
      simp only [proofmarkref27_Num.l0]
      rw [if_neg (by simp), if_neg (by rw [ByteArray.toList_eq, app_str]; simp), digs_small h4, app_str]
      simp [Nat.mod_eq_of_lt h4]
    · have hn := Lib.nDigits_big h4
      rw [ih (u / 10) (by omega) (by omega) (by omega) k _ (by rw [ByteArray.size_append, hs1]; omega) (by omega), digs_big h4, app_str]
      simp
theorem num27_zero (k : Nat) : proofmarkref27_Num.l0 (k + 2) 0 ⟨#[]⟩ = some ⟨#[48]⟩ := by
  have hd := digit_str 0 (wrap64 (48 + Int.tmod 0 10)) (by rw [Int.zero_tmod]; unfold wrap64; omega)
  have hq : wrap64 (Int.tdiv 0 10) = 0 := by rw [Int.zero_tdiv]; unfold wrap64; omega
  simp only [proofmarkref27_Num.l0]
  rw [if_neg (by decide), if_pos (by rw [ByteArray.toList_eq])]
  simp only [Option.bind_some]
  rw [hd, hq, if_pos (by decide), if_neg (by decide), if_neg (by rw [ByteArray.toList_eq, app_str]; simp)]
  rfl
theorem num30_zero (k : Nat) : proofmarkref30_Num.l0 (k + 2) 0 0 ⟨#[]⟩ = some ⟨#[48]⟩ := by
  have hd := digit_str 0 (IntKind.u64.wrap (48 + Int.tmod 0 10)) (by rw [Int.zero_tmod, IntKind.wrap_u64]; omega)
  have hq : IntKind.u64.wrap (Int.tdiv 0 10) = 0 := by rw [Int.zero_tdiv, IntKind.wrap_u64]; omega
  simp only [proofmarkref30_Num.l0]
  rw [if_neg (by decide), if_pos (by rw [ByteArray.toList_eq])]
  simp only [Option.bind_some]
  rw [hd, hq, if_pos (by decide), if_neg (by decide), if_neg (by rw [ByteArray.toList_eq, app_str]; simp), if_neg (by decide)]
  rfl
theorem num27_f (x : Int) (h0 : 0 ≤ x) (h1 : x ≤ 9223372036854775807) : proofmarkref27_Num.f 30 x = some (numB x) := by
  obtain ⟨u, rfl⟩ : ∃ u : Nat, x = u := ⟨x.toNat, by omega⟩
  unfold proofmarkref27_Num.f numB
  rw [Lib.itoa_nonneg]
  by_cases hu : u = 0
  · subst hu
    rw [digs_small (by omega)]
    exact num27_zero 28
  · rw [num27_l0 u (by omega) (by omega) 30 _ (by have := nDigits_bound u (by omega); show 0 + _ ≤ _; omega) (by have := nDigits_bound u (by omega); omega)]
    simp
theorem num30_l0 (a0 : Int) (u : Nat) : 0 < u → u ≤ 18446744073709551615 → ∀ (k : Nat) (s : ByteArray), s.size + Lib.nDigits u ≤ 1000 → Lib.nDigits u < k → proofmarkref30_Num.l0 k a0 (u : Int) s = some (if a0 < 0 then ⟨#[45]⟩ ++ ⟨(Lib.decDigits u ++ s.data.toList).toArray⟩ else ⟨(Lib.decDigits u ++ s.data.toList).toArray⟩) := by
  induction u using Nat.strongRecOn with
  | _ u ih =>
    intro h0 h1 k s h2 h3
    obtain ⟨k, rfl⟩ : ∃ m, k = m + 1 := ⟨k - 1, by omega⟩
    have hp := Lib.nDigits_pos u
    have hd := digit_str u (IntKind.u64.wrap (48 + Int.tmod (u : Int) 10)) (by rw [Int.tmod_eq_emod_of_nonneg (by omega), IntKind.wrap_u64]; omega)
    have hq : IntKind.u64.wrap (Int.tdiv (u : Int) 10) = ((u / 10 : Nat) : Int) := by rw [Int.tdiv_eq_ediv_of_nonneg (by omega), IntKind.wrap_u64]; omega
    simp only [proofmarkref30_Num.l0]
    rw [if_pos (by omega)]
    simp only [Option.bind_some]
    rw [hd, hq]
    have hs1 : (⟨#[UInt8.ofNat (48 + u % 10)]⟩ : ByteArray).size = 1 := rfl
    rw [if_pos (by rw [hs1]; omega)]
    by_cases h4 : u < 10
    · have e : u / 10 = 0 := by omega
      obtain ⟨k, rfl⟩ : ∃ m, k = m + 1 := ⟨k - 1, by omega⟩
      rw [e]
      have ea : (⟨#[UInt8.ofNat (48 + u % 10)]⟩ : ByteArray) ++ s = ⟨(Lib.decDigits u ++ s.data.toList).toArray⟩ := by
        rw [digs_small h4, app_str]; simp [Nat.mod_eq_of_lt h4]
      have es : ((⟨(Lib.decDigits u ++ s.data.toList).toArray⟩ : ByteArray)).size ≤ 1000 := by
        show (Lib.decDigits u ++ s.data.toList).toArray.size ≤ 1000
        simp [Lib.decDigits_length]; omega
      rw [ea]
      simp only [proofmarkref30_Num.l0]
      rw [if_neg (by simp), if_neg (by rw [ByteArray.toList_eq, digs_small h4]; simp)]
      by_cases hneg : a0 < 0
      · rw [if_pos hneg, if_pos hneg, if_pos (by omega)]
      · rw [if_neg hneg, if_neg hneg]
    · have hn := Lib.nDigits_big h4
      rw [ih (u / 10) (by omega) (by omega) (by omega) k _ (by rw [ByteArray.size_append, hs1]; omega) (by omega), digs_big h4, app_str ⟨#[UInt8.ofNat (48 + u % 10)]⟩ s]
      simp
theorem num30_f (x : Int) (h : (Lit.int .i64 x).wf = true) : proofmarkref30_Num.f 30 x = some (numB x) := by
  have h1 : IntKind.i64.min ≤ x ∧ x ≤ 9223372036854775807 := by simpa [Lit.wf] using h
  rw [show IntKind.i64.min = -9223372036854775808 by decide] at h1
  unfold proofmarkref30_Num.f numB
  by_cases hneg : x < 0
  · obtain ⟨u, rfl⟩ : ∃ u : Nat, x = -(u : Int) := ⟨x.natAbs, by omega⟩
    have e : IntKind.u64.wrap (-(IntKind.u64.wrap (-(u : Int)))) = (u : Int) := by rw [IntKind.wrap_u64, IntKind.wrap_u64]; omega
    rw [if_pos hneg, e]
    simp only [proofmarkref30_Num.j0]
    rw [num30_l0 _ u (by omega) (by omega) 29 _ (by have := nDigits_bound u (by omega); show 0 + _ ≤ _; omega) (by have := nDigits_bound u (by omega); omega), if_pos hneg, Lib.itoa_neg u (by omega), app_str]
    simp
  · obtain ⟨u, rfl⟩ : ∃ u : Nat, x = u := ⟨x.toNat, by omega⟩
    have e : IntKind.u64.wrap ((u : Int)) = (u : Int) := by rw [IntKind.wrap_u64]; omega
    rw [if_neg hneg, e, Lib.itoa_nonneg]
    by_cases hu : u = 0
    · subst hu
      rw [digs_small (by omega)]
      simp only [proofmarkref30_Num.j0]
      exact num30_zero 27
    · simp only [proofmarkref30_Num.j0]
      rw [num30_l0 _ u (by omega) (by omega) 29 _ (by have := nDigits_bound u (by omega); show 0 + _ ≤ _; omega) (by have := nDigits_bound u (by omega); omega), if_neg (by omega)]
      simp
end Go.Proofs.YtmfekngjhiofaaaDoor.Q
