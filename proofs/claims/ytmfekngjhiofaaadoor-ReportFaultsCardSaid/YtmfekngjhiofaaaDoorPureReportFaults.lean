/-
  Plain: ReportFaults' printed function answers true.
-/
import Derived.Test.YtmfekngjhiofaaaDoorLReportFaults
import Derived.Test.YtmfekngjhiofaaaDoorPHead
import Derived.Test.YtmfekngjhiofaaaDoorPFault
set_option linter.unusedVariables false
set_option linter.unusedSimpArgs false
namespace Go.Proofs.YtmfekngjhiofaaaDoor.Q
open Go.RowKit Go.Proofs.YtmfekngjhiofaaaDoorW.PrintWords Go.Proofs.YtmfekngjhiofaaaDoorW.PrintLast Go.Proofs.YtmfekngjhiofaaaDoorW.PrintMore
theorem wrap_nat (i : Nat) (h : i < 4611686018427387904) : wrap64 ((i : Int) + 1) = ((i + 1 : Nat) : Int) := by unfold wrap64; omega
theorem head_at (d : Nat) : proofmarklaw30_head.f (12 + d) = some true := by
  induction d with
  | zero => exact head_true
  | succ d ih => exact proofmarklaw30_head.mono _ _ ih
theorem head_k (k : Nat) (hk : 12 ≤ k) : proofmarklaw30_head.f k = some true := by
  have := head_at (k - 12)
  rwa [show 12 + (k - 12) = k by omega] at this
theorem mn50 (n : Nat) : mn (n : Int) 50 = ((min n 50 : Nat) : Int) := by unfold mn; split <;> omega
theorem rf_loop (x6 x7 x8 : List S40) (s t6 t7 : ByteArray) (hs : s.size < 4611686018427387904) (h6 : report_Faults.f x6 = some t6) (h7 : report_Faults.f x7 = some t7) (hz : t6.size + t7.size ≤ 9223372036854775807) (e : s = t6 ++ t7) (h5 : x8.length < 1000) (d : Nat) : ∀ (k i c : Nat), i ≤ s.size → s.size - i = d → d < k → c + (s.data.toList.drop i).count 10 = x8.length → proofmarklaw30_ReportFaults.l0 k true x6 x7 x8 s (c : Int) (i : Int) = some true := by
  have hsl : s.data.toList.length = s.size := by simp
  induction d with
  | zero =>
    intro k i c h1 h2 h3 h4
    obtain ⟨k, rfl⟩ : ∃ m, k = m + 1 := ⟨k - 1, by omega⟩
    simp only [proofmarklaw30_ReportFaults.l0]
    rw [if_neg (by omega), h6, h7]
    simp only [Option.bind_some, if_true]
    have h0 : (s.data.toList.drop i).count 10 = 0 := by rw [List.drop_eq_nil_of_le (by omega)]; rfl
    rw [if_pos hz, if_pos (by rw [e])]
    have hc : c = x8.length := by omega
    subst hc
    simp
  | succ d ih =>
    intro k i c h1 h2 h3 h4
    obtain ⟨k, rfl⟩ : ∃ m, k = m + 1 := ⟨k - 1, by omega⟩
    have hi : i < s.data.toList.length := by omega
    have hb : bt s (i : Int) = ((s.data.toList[i]).toNat : Int) := by
      have hq : (i : Int).toNat < s.size := by omega
      rw [← bt_at s (i : Int) hq]
      simp [ByteArray.getElem_eq_getElem_data]
    rw [List.drop_eq_getElem_cons hi, List.count_cons] at h4
    simp only [proofmarklaw30_ReportFaults.l0]
    rw [if_pos (by omega), if_pos (by omega), wrap_nat i (by omega), hb]
    by_cases h10 : s.data.toList[i] = 10
    · rw [if_pos (by rw [h10]; rfl), wrap_nat c (by omega)]
      rw [h10] at h4
      exact ih k (i + 1) (c + 1) (by omega) (by omega) (by omega) (by simp at h4 ⊢; omega)
    · rw [if_neg (by intro hq; apply h10; apply UInt8.toNat_inj.1; show _ = 10; omega)]
      refine ih k (i + 1) c (by omega) (by omega) (by omega) ?_
      have : (s.data.toList[i] == 10) = false := by simpa using h10
      rw [this] at h4
      simpa using h4
theorem faults_f (l : List S40) (h : l.length ≤ 100) (hw : l.all wfF = true) : report_Faults.f l = some ⟨(faultsB l).toArray⟩ := by unfold report_Faults.f; rw [if_pos ⟨by omega, hw⟩]
theorem all_take (l : List S40) (n : Nat) (hw : l.all wfF = true) : (l.take n).all wfF = true := by
  rw [List.all_eq_true] at hw ⊢
  exact fun x hx => hw x (List.mem_of_mem_take hx)
theorem ReportFaults (l0 l1 : List S40) (w0 : l0.all wfF = true) (w1 : l1.all wfF = true) (k : Nat) (hk : 40012 ≤ k) : proofmarklaw30_ReportFaults.f k l0 l1 = some true := by
  unfold proofmarklaw30_ReportFaults.f
  rw [head_k k (by omega)]
  simp only [Option.bind_some]
  rw [mn50, mn50]
  have a0 := all_take l0 (min l0.length 50) w0
  have a1 := all_take l1 (min l1.length 50) w1
  have b0 : (l0.take (min l0.length 50)).length ≤ 50 := by simp; omega
  have b1 : (l1.take (min l1.length 50)).length ≤ 50 := by simp; omega
  rw [if_pos (by omega), if_pos (by omega), if_pos (by omega), if_pos (by omega)]
  simp only [Int.toNat_natCast]
  generalize l0.take (min l0.length 50) = x at a0 b0 ⊢
  generalize l1.take (min l1.length 50) = y at a1 b1 ⊢
  simp only [List.nil_append, List.length_nil]
  rw [if_pos (by omega), if_pos (by omega)]
  have axy : (x ++ y).all wfF = true := by rw [List.all_append, a0, a1]; rfl
  have lxy : (x ++ y).length = x.length + y.length := by simp
  have z0 := faultsB_len x a0
  have z1 := faultsB_len y a1
  have z2 := faultsB_len (x ++ y) axy
  rw [faults_f (x ++ y) (by omega) axy]
  simp only [Option.bind_some]
  exact rf_loop x y (x ++ y) ⟨(faultsB (x ++ y)).toArray⟩ ⟨(faultsB x).toArray⟩ ⟨(faultsB y).toArray⟩ (by show (faultsB (x ++ y)).toArray.size < _; simp; omega) (faults_f x (by omega) a0) (faults_f y (by omega) a1) (by show (faultsB x).toArray.size + (faultsB y).toArray.size ≤ _; simp; omega) (by apply ByteArray.ext; rw [ByteArray.data_append]; simp [faultsB_append]) (by omega) _ _ 0 0 (by omega) rfl (by show (faultsB (x ++ y)).toArray.size - 0 < _; simp; omega) (by simp [faultsB_count])
end Go.Proofs.YtmfekngjhiofaaaDoor.Q
