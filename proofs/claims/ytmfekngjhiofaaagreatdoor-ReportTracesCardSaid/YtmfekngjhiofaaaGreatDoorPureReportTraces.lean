/-
  Plain: ReportTraces' printed function answers true.
-/
import Derived.Test.YtmfekngjhiofaaaGreatDoorQx25
import Derived.Test.YtmfekngjhiofaaaGreatDoorPHead
import Derived.Test.YtmfekngjhiofaaaGreatDoorPVerdict
import Derived.Test.YtmfekngjhiofaaaGreatDoorPBack
set_option linter.unusedVariables false
set_option linter.unusedSimpArgs false
namespace Go.Proofs.YtmfekngjhiofaaaGreatDoor.Q
open Go.RowKit Go.Proofs.YtmfekngjhiofaaaGreatDoorW.PrintWords Go.Proofs.YtmfekngjhiofaaaGreatDoorW.PrintLast Go.Proofs.YtmfekngjhiofaaaGreatDoorW.PrintMore
theorem headF_at (d : Nat) : proofmarklaw30_head.f (12 + d) = some true := by
  induction d with
  | zero => exact head_true
  | succ d ih => exact proofmarklaw30_head.mono _ _ ih
theorem headF_k (k : Nat) (hk : 12 ≤ k) : proofmarklaw30_head.f k = some true := by
  have := headF_at (k - 12)
  rwa [show 12 + (k - 12) = k by omega] at this
theorem app_line {a b : ByteArray} (ha : (10 : UInt8) ∉ a.data.toList) (hb : (10 : UInt8) ∉ b.data.toList) : (10 : UInt8) ∉ (a ++ b).data.toList := by
  rw [ByteArray.data_append]; simp only [Array.toList_append, List.mem_append]; exact fun h => h.elim ha hb
theorem numB_line (n : Int) : (10 : UInt8) ∉ (numB n).data.toList := by unfold numB; simpa using itoa_line n
theorem saysB_line (kind vk vK : Int) (n : Nat) : (10 : UInt8) ∉ (saysB kind vk vK n).data.toList := by
  unfold saysB
  split
  · refine app_line (app_line (app_line ?_ (by decide)) (numB_line _)) (by decide)
    split <;> decide
  · split
    · split
      · refine app_line (app_line (app_line ?_ (by decide)) (numB_line _)) (by decide)
        split <;> decide
      · refine app_line (app_line ?_ (by decide)) (numB_line _)
        split <;> decide
    · split
      · decide
      · split <;> decide
theorem kindB_line (k : Int) : (10 : UInt8) ∉ (kindB k).data.toList := by
  unfold kindB
  split
  · decide
  · split
    · decide
    · split <;> decide
theorem headB_line (x : S105) (vk vK : Int) (n : Nat) (h : (10 : UInt8) ∉ x.f1.data.toList) : (10 : UInt8) ∉ (headB x vk vK n).data.toList := by
  unfold headB
  exact app_line (app_line (app_line (app_line (kindB_line _) (by decide)) h) (by decide)) (saysB_line _ _ _ _)
theorem plain_line {s : ByteArray} (h : plainB s = true) : (10 : UInt8) ∉ s.data.toList := fun hm => by
  unfold plainB at h
  have := List.all_eq_true.1 h 10 hm
  exact absurd this (by decide)
theorem tidy_prop {l3 : List S105} (hw : ∀ p ∈ l3, (Lit.int .i64 p.f0).wf = true) {x : S105} (hx : x ∈ ((l3.take 40).map cutR).map tidyR) : x.f1.size ≤ 12 ∧ (10 : UInt8) ∉ x.f1.data.toList ∧ (Lit.int .i64 x.f0).wf = true := by
  obtain ⟨y, hy, rfl⟩ := List.mem_map.1 hx
  obtain ⟨z, hz, rfl⟩ := List.mem_map.1 hy
  have hwz := hw z (List.mem_of_mem_take hz)
  have hs := cutS_size z.f1
  unfold tidyR
  by_cases hp : plainB (cutR z).f1 = true
  · rw [if_pos hp]; exact ⟨hs, plain_line hp, hwz⟩
  · rw [if_neg hp]; exact ⟨show (⟨#[112]⟩ : ByteArray).size ≤ 12 by decide, show (10 : UInt8) ∉ (⟨#[112]⟩ : ByteArray).data.toList by decide, hwz⟩
theorem rowsP_len (l : List (List Int)) : (rowsP l).length ≤ 30 ∧ ∀ x ∈ rowsP l, x.length ≤ 24 := by
  unfold rowsP
  refine ⟨by simp; omega, fun x hx => ?_⟩
  obtain ⟨y, _, rfl⟩ := List.mem_map.1 hx
  simp; omega
theorem rowsP_wf (l : List (List Int)) (h : ∀ x ∈ l, ∀ y ∈ x, (Lit.int .i64 y).wf = true) : ∀ x ∈ rowsP l, ∀ y ∈ x, (Lit.int .i64 y).wf = true := by
  unfold rowsP
  intro x hx y hy
  obtain ⟨z, hz, rfl⟩ := List.mem_map.1 hx
  exact h z (List.mem_of_mem_take hz) y (List.mem_of_mem_take hy)
theorem sameInts_l0 (l : List Int) (hl : l.length ≤ 1000) (d : Nat) : ∀ (k i : Nat), l.length - i = d → d < k → i ≤ l.length → proofmarkref27_SameInts.l0 k l l (i : Int) = some true := by
  induction d with
  | zero =>
    intro k i h1 h2 h3
    obtain ⟨k, rfl⟩ : ∃ q, k = q + 1 := ⟨k - 1, by omega⟩
    simp only [proofmarkref27_SameInts.l0]
    rw [if_neg (by omega)]
  | succ d ih =>
    intro k i h1 h2 h3
    obtain ⟨k, rfl⟩ : ∃ q, k = q + 1 := ⟨k - 1, by omega⟩
    simp only [proofmarkref27_SameInts.l0]
    rw [if_pos (by omega), if_pos (by omega), if_pos (by omega), if_pos trivial, wrap_one i (by omega)]
    exact ih k (i + 1) (by omega) (by omega) (by omega)
theorem sameInts_f (l : List Int) (hl : l.length ≤ 1000) (k : Nat) (hk : 1000 < k) : proofmarkref27_SameInts.f k l l = some true := by
  unfold proofmarkref27_SameInts.f
  rw [if_pos rfl]
  exact sameInts_l0 l hl l.length k 0 (by omega) (by omega) (by omega)
theorem sameRows_l0 (l : List (List Int)) (hl : l.length ≤ 1000) (hr : ∀ x ∈ l, x.length ≤ 1000) (d : Nat) : ∀ (k i : Nat), l.length - i = d → d + 1001 < k → i ≤ l.length → proofmarkref27_SameRows.l0 k l l (i : Int) = some true := by
  induction d with
  | zero =>
    intro k i h1 h2 h3
    obtain ⟨k, rfl⟩ : ∃ q, k = q + 1 := ⟨k - 1, by omega⟩
    simp only [proofmarkref27_SameRows.l0]
    rw [if_neg (by omega)]
  | succ d ih =>
    intro k i h1 h2 h3
    obtain ⟨k, rfl⟩ : ∃ q, k = q + 1 := ⟨k - 1, by omega⟩
    have hi : i < l.length := by omega
    have e : rd_L12 l (i : Int) = l[i] := by simp [rd_L12, hi]
    simp only [proofmarkref27_SameRows.l0, e]
    rw [if_pos (by omega), if_pos (by omega), if_pos (by omega), sameInts_f _ (hr _ (List.getElem_mem hi)) k (by omega)]
    simp only [Option.bind_some, if_true]
    rw [wrap_one i (by omega)]
    exact ih k (i + 1) (by omega) (by omega) (by omega)
theorem sameRows_f (l : List (List Int)) (hl : l.length ≤ 1000) (hr : ∀ x ∈ l, x.length ≤ 1000) (k : Nat) (hk : 3000 < k) : proofmarkref27_SameRows.f k l l = some true := by
  unfold proofmarkref27_SameRows.f
  rw [if_pos rfl]
  exact sameRows_l0 l hl hr l.length k 0 (by omega) (by omega) (by omega)
theorem rowsB_len2 (names : List ByteArray) (h1 : ∀ s ∈ names, s.size ≤ 10000) : ∀ (tr : List (List Int)) (i : Nat), i + tr.length ≤ 9223372036854775807 → (∀ r ∈ tr, r.length ≤ 24 ∧ ∀ x ∈ r, (Lit.int .i64 x).wf = true) → (rowsB names i tr).length ≤ 300000 * tr.length
  | [], _, _, _ => by simp [rowsB]
  | r :: rest, i, hi, h => by
    have ih := rowsB_len2 names h1 rest (i + 1) (by simp at hi; omega) (fun a ha => h a (List.mem_cons_of_mem _ ha))
    have hr := h r List.mem_cons_self
    have a := itemsB_len names r h1 hr.2
    have b := firstB_size i (by simp at hi; omega)
    have e : (firstB i).data.toList.length = (firstB i).size := by simp
    have hm : 10023 * r.length ≤ 10023 * 24 := Nat.mul_le_mul_left _ hr.1
    simp only [rowsB, rowB, List.length_append, List.length_cons, List.length_nil]
    omega
theorem traceB_len (n1 : List S72) (n2 : List S114) (h1 : ∀ x ∈ n1, x.f0.size ≤ 100) (tr : List (List Int)) (hl : tr.length ≤ 30) (hr : ∀ x ∈ tr, x.length ≤ 24) : (traceB n1 n2 tr).length ≤ 50000000 := by
  unfold traceB
  split
  · rename_i h
    have := rowsB_len2 (n1.map (·.f0)) (fun z hz => by obtain ⟨y, hy, rfl⟩ := List.mem_map.1 hz; have := h1 y hy; omega) tr 0 (by omega) (fun r hq => by
      have := List.all_eq_true.1 h.2 r hq
      simp only [rowOk, Bool.and_eq_true, beq_iff_eq, List.all_eq_true, decide_eq_true_eq] at this
      exact ⟨hr r hq, fun x hx => wf_of x (by have := (this.2 x hx).1; omega) (by have := (this.2 x hx).2; omega)⟩)
    omega
  · simp
set_option maxHeartbeats 1000000 in
theorem ReportTraces (k : Nat) (hk : 400000000 ≤ k) (l0_0 : List S125) (l0_1 : List S72) (l0_2 : List S114) (l0_3 : List S105) (l0_4 : List S72) (a1_0 a1_1 : Int) (l1_2 l1_3 : List (List Int)) (a2 : Int)
    (hw : ∀ p ∈ l0_3, (Lit.int .i64 p.f0).wf = true) (hK : (Lit.int .i64 a1_1).wf = true) : proofmarklaw30_ReportTraces.f k l0_0 l0_1 l0_2 l0_3 l0_4 a1_0 a1_1 l1_2 l1_3 a2 = some true := by
  have e5 := tidy_f l0_0 l0_1 l0_2 l0_3 l0_4 k (by omega)
  have e6 := fit_f a1_0 a1_1 l1_2 l1_3 k (by omega)
  have hs : Small ((l0_1.take 20).map cutP) ((l0_2.take 20).map cutC) := ⟨by simp; omega, by simp; omega, fun x hx => by
    obtain ⟨y, _, rfl⟩ := List.mem_map.1 hx
    have := cutS_size y.f0
    show (cutS y.f0).size ≤ 100; omega, fun x hx => by
    obtain ⟨y, _, rfl⟩ := List.mem_map.1 hx
    have := cutS_size y.f0
    show (cutS y.f0).size ≤ 100; omega⟩
  have hP : ∀ x ∈ ((l0_3.take 40).map cutR).map tidyR, _ := fun x hx => tidy_prop hw hx
  generalize ((l0_3.take 40).map cutR).map tidyR = m3 at e5 hP
  generalize (l0_1.take 20).map cutP = m1 at e5 hs
  generalize (l0_2.take 20).map cutC = m2 at e5 hs
  generalize l0_0.take 40 = m0 at e5
  obtain ⟨i1, i2⟩ := rowsP_len l1_3
  obtain ⟨j1, j2⟩ := rowsP_len l1_2
  generalize rowsP l1_3 = inv at e6 i1 i2
  generalize rowsP l1_2 = tr at e6 j1 j2
  unfold proofmarklaw30_ReportTraces.f
  rw [headF_k k (by omega), Option.bind_some, e5, Option.bind_some, e6, Option.bind_some]
  obtain ⟨k', rfl⟩ : ∃ q, k = q + 1 := ⟨k - 1, by omega⟩
  show (report_Verdict.f (k' + 1) m0 m1 m2 m3 [] a2 1 a1_1 tr inv).bind _ = some true
  by_cases hr : a2 < 0 ∨ (m3.length : Int) ≤ a2
  · rw [verdict_out (k' + 1) m0 m1 m2 m3 [] a2 1 a1_1 tr inv hr, Option.bind_some]
    by_cases hn : a2 < 0
    · rw [if_pos hn]
      simp only [proofmarklaw30_ReportTraces.j0, if_true]
      simp [ByteArray.toList_eq]
    · rw [if_neg hn, decide_eq_true (show a2 ≥ (m3.length : Int) by omega)]
      simp only [proofmarklaw30_ReportTraces.j0, if_true]
      simp [ByteArray.toList_eq]
  · have hx : rd_T105 m3 a2 ∈ m3 := by
      have : a2.toNat < m3.length := by omega
      unfold rd_T105
      rw [List.getD_eq_getElem?_getD, List.getElem?_eq_getElem this]
      exact List.getElem_mem this
    obtain ⟨x1, x2, x3⟩ := hP _ hx
    have hlen := traceB_len m1 m2 hs.pn tr j1 j2
    have htf : traceFit m1 tr = true := by
      unfold traceFit
      rw [decide_eq_true (show m1.length ≤ 10000 by have := hs.pl; omega), decide_eq_true (show tr.length ≤ 10000 by omega), List.all_eq_true.2 (fun (z : S72) hz => decide_eq_true (show z.f0.size ≤ 10000 by have := hs.pn z hz; omega))]
      rfl
    have ht : lift_Trace.f m0 m1 m2 m3 [] tr = some ⟨(traceB m1 m2 tr).toArray⟩ := by unfold lift_Trace.f; rw [if_pos ⟨hs.shortC, htf⟩]
    have hz : (⟨(traceB m1 m2 tr).toArray⟩ : ByteArray).size ≤ 50000000 := by show (traceB m1 m2 tr).toArray.size ≤ _; rw [List.size_toArray]; exact hlen
    have hbf : backFit m1 m2 ⟨(traceB m1 m2 tr).toArray⟩ = true := by
      unfold backFit
      rw [hs.shortP, hs.shortC, decide_eq_true (show (⟨(traceB m1 m2 tr).toArray⟩ : ByteArray).size ≤ 100000000 by omega), List.all_eq_true.2 (fun (z : S72) hz => decide_eq_true (show z.f0.size ≤ 10000 by have := hs.pn z hz; omega))]
      rfl
    have hb : lift_Back.f m0 m1 m2 m3 [] ⟨(traceB m1 m2 tr).toArray⟩ = some (backB m1 m2 ⟨(traceB m1 m2 tr).toArray⟩) := by unfold lift_Back.f; rw [if_pos hbf]
    have hv : report_Verdict.f (k' + 1) m0 m1 m2 m3 [] a2 1 a1_1 tr inv = some ⟨((headB (rd_T105 m3 a2) 1 a1_1 inv.length).data.toList ++ 10 :: traceB m1 m2 tr).toArray⟩ := by
      unfold report_Verdict.f
      rw [if_neg hr, if_pos ⟨by omega, x3, hK, by omega⟩, if_pos rfl, ht, Option.bind_some, if_pos (by omega)]
      unfold headL
      simp
    have y1 := headB_line (rd_T105 m3 a2) 1 a1_1 inv.length x2
    have y2 : (headB (rd_T105 m3 a2) 1 a1_1 inv.length).data.toList.length < 100000 := by
      have h1 := kindB_size (rd_T105 m3 a2).f0
      have h2 := saysB_size (rd_T105 m3 a2).f0 1 a1_1 inv.length hK (by omega)
      have e1 : (⟨#[32]⟩ : ByteArray).size = 1 := rfl
      have e2 : (⟨#[58, 32]⟩ : ByteArray).size = 2 := rfl
      have e3 : (headB (rd_T105 m3 a2) 1 a1_1 inv.length).data.toList.length = (headB (rd_T105 m3 a2) 1 a1_1 inv.length).size := by simp
      rw [e3]
      unfold headB
      simp only [ByteArray.size_append]
      omega
    rw [hv, Option.bind_some]
    generalize (headB (rd_T105 m3 a2) 1 a1_1 inv.length).data.toList = p at y1 y2
    rw [if_neg (by omega), decide_eq_false (show ¬ a2 ≥ (m3.length : Int) by omega)]
    simp only [proofmarklaw30_ReportTraces.j0]
    rw [if_neg (by simp), behind_f p (traceB m1 m2 tr) y1 (by omega) k' (by omega), Option.bind_some]
    show (lift_Back.f m0 m1 m2 m3 [] ⟨(traceB m1 m2 tr).toArray⟩).bind _ = some true
    rw [hb, Option.bind_some, if_pos rfl, ht, Option.bind_some, if_pos rfl, if_pos trivial]
    by_cases hne : (⟨(traceB m1 m2 tr).toArray⟩ : ByteArray).toList = []
    · rw [if_pos hne]
    · rw [if_neg hne]
      have hbk := back_of m1 m2 tr ⟨(traceB m1 m2 tr).toArray⟩ (by simp) (.inl (by rwa [ByteArray.toList_eq] at hne))
      rw [hbk, if_pos rfl]
      show (proofmarkref27_SameRows.f k' tr tr).bind _ = some true
      rw [sameRows_f tr (by omega) (fun x hx => by have := j2 x hx; omega) k' (by omega), Option.bind_some]
end Go.Proofs.YtmfekngjhiofaaaGreatDoor.Q
