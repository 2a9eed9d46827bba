/-
  ReportClauses: the plain law.
-/
import Derived.Test.YtmfekngjhiofaaaDoorLReportClauses
import Derived.Test.YtmfekngjhiofaaaDoorPVerdict
import Derived.Test.YtmfekngjhiofaaaDoorPClause
import Derived.Test.YtmfekngjhiofaaaDoorPRBits
import Derived.Test.YtmfekngjhiofaaaDoorPHead
set_option linter.unusedVariables false
set_option linter.unusedSimpArgs false
namespace Go.Proofs.YtmfekngjhiofaaaDoor.Q
open Go.RowKit Go.Proofs.YtmfekngjhiofaaaDoorW.PrintWords Go.Proofs.YtmfekngjhiofaaaDoorW.PrintLast Go.Proofs.YtmfekngjhiofaaaDoorW.PrintMore
theorem headF_at (d : Nat) : proofmarklaw30_head.f (12 + d) = some true := by
  induction d with
  | zero => exact head_true
  | succ d ih => exact proofmarklaw30_head.mono _ _ ih
theorem headF_k (k : Nat) (hk : 12 ≤ k) : proofmarklaw30_head.f k = some true := by
  have := headF_at (k - 12)
  rwa [show 12 + (k - 12) = k by omega] at this
theorem app_line {a b : ByteArray} (ha : (10 : UInt8) ∉ a.data.toList) (hb : (10 : UInt8) ∉ b.data.toList) : (10 : UInt8) ∉ (a ++ b).data.toList := by
  rw [ByteArray.data_append]; simp only [Array.toList_append, List.mem_append]; exact fun h => h.elim ha hb
theorem numB_line (n : Int) : (10 : UInt8) ∉ (numB n).data.toList := by unfold numB; simpa using itoa_line n
theorem saysB_line (kind vk vK : Int) (n : Nat) : (10 : UInt8) ∉ (saysB kind vk vK n).data.toList := by
  unfold saysB
  split
  · refine app_line (app_line (app_line ?_ (by decide)) (numB_line _)) (by decide)
    split <;> decide
  · split
    · split
      · refine app_line (app_line (app_line ?_ (by decide)) (numB_line _)) (by decide)
        split <;> decide
      · refine app_line (app_line ?_ (by decide)) (numB_line _)
        split <;> decide
    · split
      · decide
      · split <;> decide
theorem kindB_line (k : Int) : (10 : UInt8) ∉ (kindB k).data.toList := by
  unfold kindB
  split
  · decide
  · split
    · decide
    · split <;> decide
theorem headB_line (x : S73) (vk vK : Int) (n : Nat) (h : (10 : UInt8) ∉ x.f1.data.toList) : (10 : UInt8) ∉ (headB x vk vK n).data.toList := by
  unfold headB
  exact app_line (app_line (app_line (app_line (kindB_line _) (by decide)) h) (by decide)) (saysB_line _ _ _ _)
theorem plain_line {s : ByteArray} (h : plainB s = true) : (10 : UInt8) ∉ s.data.toList := fun hm => by
  unfold plainB at h
  have := List.all_eq_true.1 h 10 hm
  exact absurd this (by decide)
theorem tidy_prop {l3 : List S73} (hw : ∀ p ∈ l3, (Lit.int .i64 p.f0).wf = true) {x : S73} (hx : x ∈ ((l3.take 40).map cutR).map tidyR) : x.f1.size ≤ 12 ∧ (10 : UInt8) ∉ x.f1.data.toList ∧ (Lit.int .i64 x.f0).wf = true := by
  obtain ⟨y, hy, rfl⟩ := List.mem_map.1 hx
  obtain ⟨z, hz, rfl⟩ := List.mem_map.1 hy
  have hwz := hw z (List.mem_of_mem_take hz)
  have hs := cutS_size z.f1
  unfold tidyR
  by_cases hp : plainB (cutR z).f1 = true
  · rw [if_pos hp]; exact ⟨hs, plain_line hp, hwz⟩
  · rw [if_neg hp]; exact ⟨show (⟨#[112]⟩ : ByteArray).size ≤ 12 by decide, show (10 : UInt8) ∉ (⟨#[112]⟩ : ByteArray).data.toList by decide, hwz⟩
theorem rowsP_len (l : List (List Int)) : (rowsP l).length ≤ 30 ∧ ∀ x ∈ rowsP l, x.length ≤ 24 := by
  unfold rowsP
  refine ⟨by simp; omega, fun x hx => ?_⟩
  obtain ⟨y, _, rfl⟩ := List.mem_map.1 hx
  simp; omega
theorem rowsP_wf (l : List (List Int)) (h : ∀ x ∈ l, ∀ y ∈ x, (Lit.int .i64 y).wf = true) : ∀ x ∈ rowsP l, ∀ y ∈ x, (Lit.int .i64 y).wf = true := by
  unfold rowsP
  intro x hx y hy
  obtain ⟨z, hz, rfl⟩ := List.mem_map.1 hx
  exact h z (List.mem_of_mem_take hz) y (List.mem_of_mem_take hy)
theorem sameInts_l0 (l : List Int) (hl : l.length ≤ 1000) (d : Nat) : ∀ (k i : Nat), l.length - i = d → d < k → i ≤ l.length → proofmarkref27_SameInts.l0 k l l (i : Int) = some true := by
  induction d with
  | zero =>
    intro k i h1 h2 h3
    obtain ⟨k, rfl⟩ : ∃ q, k = q + 1 := ⟨k - 1, by omega⟩
    simp only [proofmarkref27_SameInts.l0]
    rw [if_neg (by omega)]
  | succ d ih =>
    intro k i h1 h2 h3
    obtain ⟨k, rfl⟩ : ∃ q, k = q + 1 := ⟨k - 1, by omega⟩
    simp only [proofmarkref27_SameInts.l0]
    rw [if_pos (by omega), if_pos (by omega), if_pos (by omega), if_pos trivial, wrap_one i (by omega)]
    exact ih k (i + 1) (by omega) (by omega) (by omega)
theorem sameInts_f (l : List Int) (hl : l.length ≤ 1000) (k : Nat) (hk : 1000 < k) : proofmarkref27_SameInts.f k l l = some true := by
  unfold proofmarkref27_SameInts.f
  rw [if_pos rfl]
  exact sameInts_l0 l hl l.length k 0 (by omega) (by omega) (by omega)
theorem ar1 {d k : Nat} (h : d * 2100000 + 1000010 < k + 1) : d * 2100000 + 10 < k := Nat.lt_of_lt_of_le (Nat.add_lt_add_left (show 10 < 1000010 by decide) _) (Nat.le_of_lt_succ h)
theorem ar2 {d k : Nat} (h : d * 2100000 + 1000020 < k + 1) : d * 2100000 + 1000010 < k := Nat.lt_of_lt_of_le (Nat.add_lt_add_left (show 1000010 < 1000020 by decide) _) (Nat.le_of_lt_succ h)
section
variable (m0 : List S96) (m1 : List S111) (m2 : List S94) (m3 : List S73) (m4 : List S111) (vk vK : Int) (tr inv : List (List Int)) (lats : List S98)
/-- the line up to its end -/
theorem line_l1 (t p r : List UInt8) (ht : t = p ++ 10 :: r) (hp : (10 : UInt8) ∉ p) (hz : t.length < 4000000000) (x14 : Int) (kk : Nat) (R : Option Bool) (hR : ∀ k, kk < k → proofmarklaw30_ReportClauses.j3 k true ⟨t.toArray⟩ x14 ⟨p.toArray⟩ m0 m1 m2 m3 m4 vk vK tr inv 0 [] [] lats [] = R) (d : Nat) :
    ∀ (k j : Nat), p.length - j = d → j ≤ p.length → kk + d + 1 < k → proofmarklaw30_ReportClauses.l1 k true ⟨t.toArray⟩ x14 ⟨(p.take j).toArray⟩ (j : Int) m0 m1 m2 m3 m4 vk vK tr inv 0 [] [] lats [] = R := by
  have hsz : (⟨t.toArray⟩ : ByteArray).size = p.length + r.length + 1 := by show t.toArray.size = _; rw [ht]; simp; omega
  have hz2 : p.length + r.length + 1 < 4000000000 := by rw [ht] at hz; simp at hz; omega
  have hl : (⟨t.toArray⟩ : ByteArray).data.toList = t := by simp
  induction d with
  | zero =>
    intro k j h1 h2 h3
    obtain rfl : j = p.length := by omega
    obtain ⟨k, rfl⟩ : ∃ q, k = q + 1 := ⟨k - 1, by omega⟩
    have hb := bt_list ⟨t.toArray⟩ p.length (by rw [hl, ht]; simp)
    have hg : (⟨t.toArray⟩ : ByteArray).data.toList[p.length]'(by rw [hl, ht]; simp) = 10 := by simp [ht]
    rw [hg] at hb
    simp only [proofmarklaw30_ReportClauses.l1]
    rw [if_pos (by rw [hsz]; omega), if_pos (by omega), if_pos (by rw [hb]; rfl), List.take_length]
    exact hR k (by omega)
  | succ d ih =>
    intro k j h1 h2 h3
    obtain ⟨k, rfl⟩ : ∃ q, k = q + 1 := ⟨k - 1, by omega⟩
    have hj : j < p.length := by omega
    have hb := bt_list ⟨t.toArray⟩ j (by rw [hl, ht]; simp; omega)
    have hg : (⟨t.toArray⟩ : ByteArray).data.toList[j]'(by rw [hl, ht]; simp; omega) = p[j] := by simp [ht, hj]
    rw [hg] at hb
    have hne : ¬ (bt ⟨t.toArray⟩ (j : Int)) = 10 := by
      rw [hb]
      intro hq
      have e : p[j] = 10 := (byte_is (p[j]) 10 (by omega)).1 hq
      exact hp (e ▸ List.getElem_mem hj)
    have hx : (⟨t.toArray⟩ : ByteArray).extract 0 ((((j + 1 : Nat) : Int) : Int).toNat) = ⟨(p.take (j + 1)).toArray⟩ := by
      apply ByteArray.ext
      apply Array.toList_inj.1
      rw [ByteArray.data_extract, Array.toList_extract, hl, ht, Int.toNat_natCast]
      simp only [List.extract_eq_take_drop, List.drop_zero, Nat.sub_zero]
      rw [List.take_append_of_le_length (by omega)]
    simp only [proofmarklaw30_ReportClauses.l1]
    rw [if_pos (by rw [hsz]; omega), if_pos (by omega), if_neg hne, wrap_one j (by omega), if_pos (by omega), if_pos (by rw [hsz]; omega), hx]
    exact ih k (j + 1) (by omega) (by omega) (by omega)
set_option maxRecDepth 100000 in
/-- the clauses, line by line -/
theorem clauses_l0 (hs : Small m1 m2) (hL : lats.all (fun x => (Lit.int .i64 x.f4).wf) = true) (hll : lats.length ≤ 10000) (hi : inv.length ≤ 100) (hr : ∀ x ∈ inv, x.length ≤ 90) (hw : ∀ x ∈ inv, ∀ y ∈ x, (Lit.int .i64 y).wf = true) (q : Nat) (d : Nat) :
    ∀ (k i : Nat) (t : List UInt8), inv.length - i = d → i ≤ inv.length → clauseLines q m0 m1 m2 m3 m4 (0, [], [], lats, []) (inv.drop i) = some t → d * 2100000 + 10 < k → proofmarklaw30_ReportClauses.l0 k true ⟨t.toArray⟩ true (i : Int) m0 m1 m2 m3 m4 vk vK tr inv 0 [] [] lats [] = some true := by
  induction d with
  | zero =>
    intro k i t h1 h2 h3 h4
    obtain rfl : i = inv.length := by omega
    obtain ⟨k, rfl⟩ : ∃ q, k = q + 1 := ⟨k - 1, by omega⟩
    rw [List.drop_length] at h3
    obtain rfl : t = [] := by simpa [clauseLines] using h3.symm
    simp only [proofmarklaw30_ReportClauses.l0]
    rw [if_neg (by omega)]
    simp [ByteArray.toList_eq]
  | succ d ih =>
    intro k i t h1 h2 h3 h4
    obtain ⟨k, rfl⟩ : ∃ q, k = q + 1 := ⟨k - 1, by omega⟩
    have hlt : i < inv.length := by omega
    rw [List.drop_eq_getElem_cons hlt] at h3
    unfold clauseLines at h3
    obtain ⟨s, hsf, h3⟩ := Option.bind_eq_some_iff.1 h3
    by_cases hsz : s.size ≤ 1000000
    · rw [if_pos hsz] at h3
      obtain ⟨t2, ht2, h3⟩ := Option.bind_eq_some_iff.1 h3
      have ht : t = s.data.toList ++ 10 :: t2 := (Option.some.inj h3).symm
      have hlen2 := clauseLines_len q m0 m1 m2 m3 m4 (0, [], [], lats, []) _ _ ht2
      rw [List.length_drop] at hlen2
      have esz : s.data.toList.length = s.size := by simp
      have htl : t.length < 4000000000 := by rw [ht]; simp only [List.length_append, List.length_cons]; omega
      have hsf0 := hsf
      unfold lift_Clause.f at hsf
      by_cases hfit : clauseFit m1 m2 lats inv[i] = true
      · simp only [] at hsf
        rw [if_pos hfit] at hsf
        have hsd : s.data.toList = clauseB m1 m2 lats inv[i] := by rw [← Option.some.inj hsf]
        have h90 := hr inv[i] (List.getElem_mem hlt)
        have hcl := clause_len m1 m2 lats inv[i] (fun z hz => by have := hs.cn z hz; omega) hL
        rw [← hsd] at hcl
        have hno : (10 : UInt8) ∉ s.data.toList := by rw [hsd]; exact clause_line m1 m2 lats inv[i]
        have hrd : rd_L23 inv (i : Int) = inv[i] := by simp [rd_L23, hlt]
        have hlf : litsFit m1 m2 lats ⟨s.data.toList.toArray⟩ = true := by
          unfold litsFit
          rw [hs.shortP, hs.shortC, hL, decide_eq_true (show lats.length ≤ 1000000 by omega), List.all_eq_true.2 (fun (z : S94) hz => decide_eq_true (show z.f0.size ≤ 10000 by have := hs.cn z hz; omega)), decide_eq_true (show (⟨s.data.toList.toArray⟩ : ByteArray).size < 4294967281 by show s.data.toList.toArray.size < _; simp; omega)]
          rfl
        have hsame : (⟨s.data.toList.toArray⟩ : ByteArray) = s := ba_list (by simp)
        have hj4 : ∀ k, d * 2100000 + 1000010 < k → proofmarklaw30_ReportClauses.j4 k true ⟨t.toArray⟩ (i : Int) false m0 m1 m2 m3 m4 vk vK tr inv 0 [] [] lats [] = some true := by
          intro k hk
          obtain ⟨k, rfl⟩ : ∃ q, k = q + 1 := ⟨k - 1, by omega⟩
          simp only [proofmarklaw30_ReportClauses.j4]
          rw [if_neg (by simp), ht, behind_f s.data.toList t2 hno (by omega) k (by omega)]
          simp only [Option.bind_some, if_true]
          rw [wrap_one i (by omega)]
          exact ih k (i + 1) t2 (by omega) (by omega) ht2 (ar1 hk)
        have hj3 : ∀ k, d * 2100000 + 1000020 < k → proofmarklaw30_ReportClauses.j3 k true ⟨t.toArray⟩ (i : Int) ⟨s.data.toList.toArray⟩ m0 m1 m2 m3 m4 vk vK tr inv 0 [] [] lats [] = some true := by
          intro k hk
          obtain ⟨k, rfl⟩ : ∃ q, k = q + 1 := ⟨k - 1, by omega⟩
          simp only [proofmarklaw30_ReportClauses.j3]
          unfold lift_Lits.f
          rw [if_pos hlf]
          simp only [Option.bind_some]
          rw [if_pos (by omega), if_pos (by omega), hrd, hsf0]
          simp only [Option.bind_some]
          rw [hsame, if_pos trivial]
          by_cases he : s.data.toList = []
          · rw [if_pos (by rw [ByteArray.toList_eq]; exact he)]
            exact hj4 k (ar2 hk)
          · rw [if_neg (by rw [ByteArray.toList_eq]; exact he), lits_back m1 m2 lats inv[i] (by omega) (hw _ (List.getElem_mem hlt)) s hsd he]
            simp only [if_true]
            rw [sameInts_f inv[i] (by omega) k (by omega)]
            simp only [Option.bind_some, Bool.not_true]
            exact hj4 k (ar2 hk)
        simp only [proofmarklaw30_ReportClauses.l0]
        rw [if_pos (by omega)]
        have := line_l1 m0 m1 m2 m3 m4 vk vK tr inv lats t s.data.toList t2 ht hno htl (i : Int) (d * 2100000 + 1000020) (some true) hj3 s.data.toList.length k 0 (by omega) (by omega) (by omega)
        simpa using this
      · simp only [] at hsf
        rw [if_neg hfit] at hsf; exact absurd hsf (by simp)
    · rw [if_neg hsz] at h3; exact absurd h3 (by simp)
end
theorem ReportClauses (k : Nat) (hk : 400000000 ≤ k) (l0_0 : List S96) (l0_1 : List S111) (l0_2 : List S94) (l0_3 : List S73) (l0_4 : List S111) (a1_0 a1_1 : Int) (l1_2 l1_3 : List (List Int)) (a2 : Int)
    (hw : ∀ p ∈ l0_3, (Lit.int .i64 p.f0).wf = true) (hK : (Lit.int .i64 a1_1).wf = true) (hI : ∀ x ∈ l1_3, ∀ y ∈ x, (Lit.int .i64 y).wf = true) : proofmarklaw30_ReportClauses.f k l0_0 l0_1 l0_2 l0_3 l0_4 a1_0 a1_1 l1_2 l1_3 a2 = some true := by
  have e5 := tidy_f l0_0 l0_1 l0_2 l0_3 l0_4 k (by omega)
  have e6 := fit_f a1_0 a1_1 l1_2 l1_3 k (by omega)
  have hs : Small ((l0_1.take 20).map cutP) ((l0_2.take 20).map cutC) := ⟨by simp; omega, by simp; omega, fun x hx => by
    obtain ⟨y, _, rfl⟩ := List.mem_map.1 hx
    have := cutS_size y.f0
    show (cutS y.f0).size ≤ 100; omega, fun x hx => by
    obtain ⟨y, _, rfl⟩ := List.mem_map.1 hx
    have := cutS_size y.f0
    show (cutS y.f0).size ≤ 100; omega⟩
  have hP : ∀ x ∈ ((l0_3.take 40).map cutR).map tidyR, _ := fun x hx => tidy_prop hw hx
  generalize ((l0_3.take 40).map cutR).map tidyR = m3 at e5 hP
  generalize (l0_1.take 20).map cutP = m1 at e5 hs
  generalize (l0_2.take 20).map cutC = m2 at e5 hs
  generalize l0_0.take 40 = m0 at e5
  obtain ⟨i1, i2⟩ := rowsP_len l1_3
  obtain ⟨j1, j2⟩ := rowsP_len l1_2
  have i3 := rowsP_wf l1_3 hI
  generalize rowsP l1_3 = inv at e6 i1 i2 i3
  generalize rowsP l1_2 = tr at e6 j1 j2
  unfold proofmarklaw30_ReportClauses.f
  rw [headF_k k (by omega), e5, e6]
  simp only [Option.bind_some]
  obtain ⟨k', rfl⟩ : ∃ q, k = q + 1 := ⟨k - 1, by omega⟩
  by_cases hr : a2 < 0 ∨ (m3.length : Int) ≤ a2
  · rw [verdict_out (k' + 1) m0 m1 m2 m3 [] a2 2 a1_1 tr inv hr]
    simp only [Option.bind_some]
    by_cases hn : a2 < 0
    · rw [if_pos hn]
      simp only [proofmarklaw30_ReportClauses.j0, if_true]
      simp [ByteArray.toList_eq]
    · rw [if_neg hn, decide_eq_true (show a2 ≥ (m3.length : Int) by omega)]
      simp only [proofmarklaw30_ReportClauses.j0, if_true]
      simp [ByteArray.toList_eq]
  · have hx : rd_T73 m3 a2 ∈ m3 := by
      have : a2.toNat < m3.length := by omega
      unfold rd_T73
      rw [List.getD_eq_getElem?_getD, List.getElem?_eq_getElem this]
      exact List.getElem_mem this
    obtain ⟨x1, x2, x3⟩ := hP _ hx
    have hc := hs.cl
    obtain ⟨lats, hb, hlo⟩ := bits_f m0 m1 m2 m3 [] (by omega) 4001 (by omega)
    obtain ⟨K, hK4, hB⟩ := bits_same m0 m1 m2 m3 [] 4001 _ hb
    have hbk : report_bits.f (k' + 1) m0 m1 m2 m3 [] = some (0, [], [], lats, []) := by
      have := mono_le (f := fun q => report_bits.f q m0 m1 m2 m3 []) (fun q => report_bits.mono _ _ _ _ _ q) hb (k' + 1 - 4001)
      rwa [show 4001 + (k' + 1 - 4001) = k' + 1 by omega] at this
    have hBk : proofmarkref30_Bits.f k' m0 m1 m2 m3 [] = some (0, [], [], lats, []) := by
      have := mono_le (f := fun q => proofmarkref30_Bits.f q m0 m1 m2 m3 []) (fun q => proofmarkref30_Bits.mono _ _ _ _ _ q) hB (k' - K)
      rwa [show K + (k' - K) = k' by omega] at this
    obtain ⟨t, ht⟩ := clauseLines_ok (k' + 1) m0 m1 m2 m3 [] hs (0, [], [], lats, []) hlo.2 inv (fun z hz => by have := i2 z hz; omega)
    have hv : report_Verdict.f (k' + 1) m0 m1 m2 m3 [] a2 2 a1_1 tr inv = some ⟨((headB (rd_T73 m3 a2) 2 a1_1 inv.length).data.toList ++ 10 :: t).toArray⟩ := by
      unfold report_Verdict.f
      rw [if_neg hr, if_pos ⟨by omega, x3, hK, by omega⟩, if_neg (by decide), if_pos rfl, hbk]
      simp only [Option.bind_some]
      rw [ht]
      simp only [Option.bind_some]
      unfold headL
      simp
    have y1 := headB_line (rd_T73 m3 a2) 2 a1_1 inv.length x2
    have y2 : (headB (rd_T73 m3 a2) 2 a1_1 inv.length).data.toList.length < 100000 := by
      have h1 := kindB_size (rd_T73 m3 a2).f0
      have h2 := saysB_size (rd_T73 m3 a2).f0 2 a1_1 inv.length hK (by omega)
      have e1 : (⟨#[32]⟩ : ByteArray).size = 1 := rfl
      have e2 : (⟨#[58, 32]⟩ : ByteArray).size = 2 := rfl
      have e3 : (headB (rd_T73 m3 a2) 2 a1_1 inv.length).data.toList.length = (headB (rd_T73 m3 a2) 2 a1_1 inv.length).size := by simp
      rw [e3]
      unfold headB
      simp only [ByteArray.size_append]
      omega
    rw [hv]
    simp only [Option.bind_some]
    generalize (headB (rd_T73 m3 a2) 2 a1_1 inv.length).data.toList = p at y1 y2
    rw [if_neg (by omega), decide_eq_false (show ¬ a2 ≥ (m3.length : Int) by omega)]
    simp only [proofmarklaw30_ReportClauses.j0]
    rw [if_neg (by simp), behind_f p t y1 (by omega) k' (by omega), hBk]
    simp only [Option.bind_some]
    have := clauses_l0 m0 m1 m2 m3 [] 2 a1_1 tr inv lats hs hlo.2 (by have := hlo.1; omega) (by omega) (fun z hz => by have := i2 z hz; omega) i3 (k' + 1) inv.length k' 0 t (by omega) (by omega) (by simpa using ht) (by omega)
    simpa using this
end Go.Proofs.YtmfekngjhiofaaaDoor.Q
