/-
  Plain: what report.Verdict tells, in range and out of it; its circuit; the law's tidy and behind.
-/
import Derived.Test.YtmfekngjhiofaaaGreatDoorHVerdict
import Derived.Test.YtmfekngjhiofaaaGreatDoorQx24
import Derived.Test.YtmfekngjhiofaaaGreatDoorQx25
import Derived.Test.YtmfekngjhiofaaaGreatDoorPFew
import Derived.Test.YtmfekngjhiofaaaGreatDoorPFault
set_option linter.unusedVariables false
set_option linter.unusedSimpArgs false
namespace Go.Proofs.YtmfekngjhiofaaaGreatDoor.Q
open Go.RowKit Go.Proofs.YtmfekngjhiofaaaGreatDoorW.PrintWords Go.Proofs.YtmfekngjhiofaaaGreatDoorW.PrintLast Go.Proofs.YtmfekngjhiofaaaGreatDoorW.PrintMore
def okL (l : List S94) (n : Nat) : Prop := l.length ≤ n ∧ l.all (fun x => (Lit.int .i64 x.f4).wf) = true
theorem okL_mono {l : List S94} {n m : Nat} (h : okL l n) (hm : n ≤ m) : okL l m := ⟨Nat.le_trans h.1 hm, h.2⟩
theorem bits_l1 (cells : List S114) (nodes : List S125) (pins : List S72) (props : List S105) (names : List S72) (c0 : Int) (n i m F : Nat) (hm : m ≤ 16) (hi : i < 10000)
    (IH : ∀ (k : Nat) (lats : List S94), F < k → okL lats (16 * (i + 1)) → ∃ r, report_bits.l0 k cells (n : Int) ((i + 1 : Nat) : Int) nodes pins cells props names c0 lats = some (c0, [], [], r, []) ∧ okL r (16 * n)) (e : Nat) :
    ∀ (k b : Nat) (lats : List S94), m - b = e → b ≤ m → F + e + 1 < k → okL lats (16 * i + b) → ∃ r, report_bits.l1 k (i : Int) cells (n : Int) (i : Int) (m : Int) (b : Int) nodes pins cells props names c0 lats = some (c0, [], [], r, []) ∧ okL r (16 * n) := by
  induction e with
  | zero =>
    intro k b lats h1 h2 h3 h4
    obtain ⟨k, rfl⟩ : ∃ q, k = q + 1 := ⟨k - 1, by omega⟩
    simp only [report_bits.l1]
    rw [if_neg (by omega), wrap_one i (by omega)]
    exact IH k lats (by omega) (okL_mono h4 (by omega))
  | succ e ih =>
    intro k b lats h1 h2 h3 h4
    obtain ⟨k, rfl⟩ : ∃ q, k = q + 1 := ⟨k - 1, by omega⟩
    have h5 := h4.1
    simp only [report_bits.l1]
    rw [if_pos (by omega), if_pos (by omega), wrap_one b (by omega)]
    refine ih k (b + 1) _ (by omega) (by omega) (by omega) ⟨by simp; omega, ?_⟩
    rw [List.all_append, h4.2]
    simp [wf_nat b (by omega)]
theorem mx0 (x : Int) (h : ¬ x > 16) : ∃ m : Nat, m ≤ 16 ∧ mx x 0 = (m : Int) := by
  refine ⟨(mx x 0).toNat, ?_, ?_⟩ <;> unfold mx <;> split <;> omega
theorem bits_l0 (cells : List S114) (nodes : List S125) (pins : List S72) (props : List S105) (names : List S72) (c0 : Int) (hn : cells.length ≤ 9000) (d : Nat) :
    ∀ (k i : Nat) (lats : List S94), cells.length - i = d → i ≤ cells.length → 40 * d < k → okL lats (16 * i) → ∃ r, report_bits.l0 k cells (cells.length : Int) (i : Int) nodes pins cells props names c0 lats = some (c0, [], [], r, []) ∧ okL r (16 * cells.length) := by
  induction d with
  | zero =>
    intro k i lats h1 h2 h3 h4
    obtain ⟨k, rfl⟩ : ∃ q, k = q + 1 := ⟨k - 1, by omega⟩
    simp only [report_bits.l0]
    rw [if_neg (by omega)]
    exact ⟨lats, rfl, okL_mono h4 (by omega)⟩
  | succ d ih =>
    intro k i lats h1 h2 h3 h4
    obtain ⟨k, rfl⟩ : ∃ q, k = q + 2 := ⟨k - 2, by omega⟩
    have next : ∀ (q : Nat) (l : List S94), 40 * d < q → okL l (16 * (i + 1)) → ∃ r, report_bits.l0 q cells (cells.length : Int) ((i + 1 : Nat) : Int) nodes pins cells props names c0 l = some (c0, [], [], r, []) ∧ okL r (16 * cells.length) := fun q l hq hl => ih q (i + 1) l (by omega) (by omega) hq hl
    have skip := next k lats (by omega) (okL_mono h4 (by omega))
    rw [show k + 2 = (k + 1) + 1 from rfl]
    simp only [report_bits.l0]
    generalize rd_T114 cells (i : Int) = x
    rw [if_pos (by omega), if_pos (by omega), if_pos (by omega)]
    by_cases q1 : x.f1 < 0
    · rw [if_pos q1]
      simp only [report_bits.j1, if_true]
      rw [wrap_one i (by omega)]
      exact skip
    · rw [if_neg q1]
      by_cases q2 : x.f1 ≥ (nodes.length : Int)
      · rw [if_pos q2]
        simp only [report_bits.j1, if_true]
        rw [wrap_one i (by omega)]
        exact skip
      · rw [if_neg q2, if_pos (by omega), if_pos (by omega)]
        simp only [report_bits.j1]
        by_cases q3 : (rd_T125 nodes x.f1).f1 > 16
        · rw [if_pos (decide_eq_true q3), wrap_one i (by omega)]
          exact skip
        · rw [if_neg (by simpa using q3), if_pos (by omega), if_pos (by omega)]
          obtain ⟨m, hm, he⟩ := mx0 _ q3
          rw [he]
          exact bits_l1 cells nodes pins props names c0 cells.length i m (40 * d) hm (by omega) next m k 0 lats (by omega) (by omega) (by omega) (okL_mono h4 (by omega))
theorem bits_f (nodes : List S125) (pins : List S72) (cells : List S114) (props : List S105) (names : List S72) (hn : cells.length ≤ 9000) (k : Nat) (hk : 40 * cells.length < k) :
    ∃ r, report_bits.f k nodes pins cells props names = some (0, [], [], r, []) ∧ okL r (16 * cells.length) := by
  unfold report_bits.f
  exact bits_l0 cells nodes pins props names 0 hn cells.length k 0 [] (by omega) (by omega) hk ⟨by simp, rfl⟩
theorem clause_len (l1 : List S72) (l2 : List S114) (lats : List S94) (l : List Int) (h2 : ∀ x ∈ l2, x.f0.size ≤ 10000) (h3 : lats.all (fun x => (Lit.int .i64 x.f4).wf) = true) : (clauseB l1 l2 lats l).length ≤ 10027 * l.length + 5 := by
  unfold clauseB
  split
  · split
    · simp
    · split
      · rename_i hall
        have := join_len barB.data.toList 10024 ((l.map (wordB l2 lats)).map (·.data.toList)) (fun z hz => by
          obtain ⟨b, hb, rfl⟩ := List.mem_map.1 hz
          obtain ⟨x, hx, rfl⟩ := List.mem_map.1 hb
          have := wordB_size l2 lats x h2 h3 (List.all_eq_true.1 hall x hx)
          simpa using this)
        have e : barB.data.toList.length = 3 := rfl
        rw [e] at this
        simp only [List.length_map] at this
        unfold joinB
        omega
      · simp
  · simp
/-- a net whose names are short and whose rows are few -/
structure Small (pins : List S72) (cells : List S114) : Prop where
  pl : pins.length ≤ 100
  cl : cells.length ≤ 100
  pn : ∀ x ∈ pins, x.f0.size ≤ 100
  cn : ∀ x ∈ cells, x.f0.size ≤ 100
theorem Small.shortP {pins : List S72} {cells : List S114} (h : Small pins cells) : shortP pins = true := List.all_eq_true.2 fun x hx => decide_eq_true (by have := h.pn x hx; omega)
theorem Small.shortC {pins : List S72} {cells : List S114} (h : Small pins cells) : shortC cells = true := List.all_eq_true.2 fun x hx => decide_eq_true (by have := h.cn x hx; omega)
theorem clauseLines_ok (k : Nat) (l0_0 : List S125) (l0_1 : List S72) (l0_2 : List S114) (l0_3 : List S105) (l0_4 : List S72) (hs : Small l0_1 l0_2) (c : BitsT) (hc : c.2.2.2.1.all (fun x => (Lit.int .i64 x.f4).wf) = true) :
    ∀ l : List (List Int), (∀ x ∈ l, x.length ≤ 90) → ∃ t, clauseLines k l0_0 l0_1 l0_2 l0_3 l0_4 c l = some t
  | [], _ => ⟨[], rfl⟩
  | x :: l, h => by
    obtain ⟨t, ht⟩ := clauseLines_ok k l0_0 l0_1 l0_2 l0_3 l0_4 hs c hc l (fun z hz => h z (List.mem_cons_of_mem _ hz))
    have hx := h x List.mem_cons_self
    have hf : clauseFit l0_1 l0_2 c.2.2.2.1 x = true := by
      unfold clauseFit
      rw [hs.shortP, hs.shortC, hc, decide_eq_true (show x.length ≤ 10000 by omega), List.all_eq_true.2 (fun (z : S114) hz => decide_eq_true (show z.f0.size ≤ 10000 by have := hs.cn z hz; omega))]
      rfl
    have hlen := clause_len l0_1 l0_2 c.2.2.2.1 x (fun z hz => by have := hs.cn z hz; omega) hc
    unfold clauseLines lift_Clause.f
    rw [if_pos hf]
    simp only [Option.bind_some]
    rw [if_pos (by show (clauseB l0_1 l0_2 c.2.2.2.1 x).toArray.size ≤ 1000000; simp; omega), ht]
    exact ⟨_, rfl⟩
theorem trace_ok (l0_0 : List S125) (l0_1 : List S72) (l0_2 : List S114) (l0_3 : List S105) (l0_4 : List S72) (hs : Small l0_1 l0_2) (l : List (List Int)) (hl : l.length ≤ 100) :
    ∃ t, lift_Trace.f l0_0 l0_1 l0_2 l0_3 l0_4 l = some t ∧ t.size ≤ 10000000000000 := by
  have hf : traceFit l0_1 l = true := by
    unfold traceFit
    rw [decide_eq_true (show l0_1.length ≤ 10000 by have := hs.pl; omega), decide_eq_true (show l.length ≤ 10000 by omega), List.all_eq_true.2 (fun (z : S72) hz => decide_eq_true (show z.f0.size ≤ 10000 by have := hs.pn z hz; omega))]
    rfl
  refine ⟨_, by unfold lift_Trace.f; rw [if_pos ⟨hs.shortC, hf⟩], ?_⟩
  show (traceB l0_1 l0_2 l).toArray.size ≤ _
  unfold traceB
  split
  · rename_i h
    have := rowsB_len (l0_1.map (·.f0)) (fun z hz => by obtain ⟨y, hy, rfl⟩ := List.mem_map.1 hz; have := hs.pn y hy; omega) l 0 (by omega) (fun r hr => by
      have := List.all_eq_true.1 h.2 r hr
      simp only [rowOk, Bool.and_eq_true, beq_iff_eq, List.all_eq_true, decide_eq_true_eq] at this
      have hp := hs.pl
      exact ⟨by omega, fun x hx => wf_of x (by have := (this.2 x hx).1; omega) (by have := (this.2 x hx).2; omega)⟩)
    simp only [List.size_toArray]
    omega
  · simp
theorem verdict_out (k : Nat) (l0_0 : List S125) (l0_1 : List S72) (l0_2 : List S114) (l0_3 : List S105) (l0_4 : List S72) (a1 vk vK : Int) (tr inv : List (List Int)) (h : a1 < 0 ∨ (l0_3.length : Int) ≤ a1) : report_Verdict.f k l0_0 l0_1 l0_2 l0_3 l0_4 a1 vk vK tr inv = some ⟨#[]⟩ := by
  unfold report_Verdict.f; rw [if_pos h]
theorem verdict_in (k : Nat) (l0_0 : List S125) (l0_1 : List S72) (l0_2 : List S114) (l0_3 : List S105) (l0_4 : List S72) (a1 vk vK : Int) (tr inv : List (List Int)) (hs : Small l0_1 l0_2) (hk : 4000 < k) (h : ¬ (a1 < 0 ∨ (l0_3.length : Int) ≤ a1))
    (hp : (rd_T105 l0_3 a1).f1.size ≤ 10000) (hq : (Lit.int .i64 (rd_T105 l0_3 a1).f0).wf = true) (hK : (Lit.int .i64 vK).wf = true) (ht : tr.length ≤ 100) (hi : inv.length ≤ 100) (hr : ∀ x ∈ inv, x.length ≤ 90) :
    ∃ t : List UInt8, report_Verdict.f k l0_0 l0_1 l0_2 l0_3 l0_4 a1 vk vK tr inv = some ⟨((headB (rd_T105 l0_3 a1) vk vK inv.length).data.toList ++ 10 :: t).toArray⟩ := by
  unfold report_Verdict.f
  rw [if_neg h, if_pos ⟨hp, hq, hK, by omega⟩]
  have e : ∀ t : List UInt8, headL (rd_T105 l0_3 a1) vk vK inv.length ++ t = (headB (rd_T105 l0_3 a1) vk vK inv.length).data.toList ++ 10 :: t := fun t => by unfold headL; simp
  by_cases h1 : vk = 1
  · rw [if_pos h1]
    obtain ⟨t, ht1, ht2⟩ := trace_ok l0_0 l0_1 l0_2 l0_3 l0_4 hs tr ht
    rw [ht1]
    simp only [Option.bind_some]
    rw [if_pos ht2, e]
    exact ⟨_, rfl⟩
  · rw [if_neg h1]
    by_cases h2 : vk = 2
    · rw [if_pos h2]
      have hc := hs.cl
      obtain ⟨r, hb, hr2⟩ := bits_f l0_0 l0_1 l0_2 l0_3 l0_4 (by omega) k (by omega)
      obtain ⟨t, ht⟩ := clauseLines_ok k l0_0 l0_1 l0_2 l0_3 l0_4 hs (0, [], [], r, []) hr2.2 inv hr
      rw [hb]
      simp only [Option.bind_some]
      rw [ht]
      simp only [Option.bind_some]
      rw [e]
      exact ⟨_, rfl⟩
    · rw [if_neg h2]
      have := e []
      rw [List.append_nil] at this
      rw [this]
      exact ⟨[], rfl⟩
/-! ### behind -/
theorem behind_none (k : Nat) (hk : 1 ≤ k) : proofmarklaw30_behind.f k ⟨#[]⟩ = some (⟨#[]⟩, false) := by
  obtain ⟨k, rfl⟩ : ∃ q, k = q + 1 := ⟨k - 1, by omega⟩
  unfold proofmarklaw30_behind.f
  simp only [proofmarklaw30_behind.l0]
  rw [if_neg (by decide)]
theorem behind_l0 (p t : List UInt8) (hp : (10 : UInt8) ∉ p) (hs : p.length < 1000000) (d : Nat) : ∀ (k i : Nat), p.length - i = d → i ≤ p.length → d < k → proofmarklaw30_behind.l0 k ⟨(p ++ 10 :: t).toArray⟩ (i : Int) = some (⟨t.toArray⟩, true) := by
  have hsz : (⟨(p ++ 10 :: t).toArray⟩ : ByteArray).size = p.length + t.length + 1 := by show (p ++ 10 :: t).toArray.size = _; simp; omega
  induction d with
  | zero =>
    intro k i h1 h2 h3
    obtain rfl : i = p.length := by omega
    obtain ⟨k, rfl⟩ : ∃ q, k = q + 1 := ⟨k - 1, by omega⟩
    have hb := bt_list ⟨(p ++ 10 :: t).toArray⟩ p.length (by simp)
    have hg : (⟨(p ++ 10 :: t).toArray⟩ : ByteArray).data.toList[p.length]'(by simp) = 10 := by simp
    rw [hg] at hb
    simp only [proofmarklaw30_behind.l0]
    rw [if_pos (by rw [hsz]; omega), if_pos (by omega), if_pos (by rw [hb]; rfl), wrap_one p.length (by omega), if_pos (by omega), if_pos (by rw [hsz]; omega), Int.toNat_natCast]
    congr 2
    apply ByteArray.ext
    apply Array.toList_inj.1
    rw [ByteArray.data_extract, Array.toList_extract, hsz]
    simp only [List.extract_eq_take_drop, List.drop_append]
    rw [List.drop_eq_nil_of_le (by omega), show p.length + 1 - p.length = 1 by omega, show p.length + t.length + 1 - (p.length + 1) = t.length by omega]
    simp
  | succ d ih =>
    intro k i h1 h2 h3
    obtain ⟨k, rfl⟩ : ∃ q, k = q + 1 := ⟨k - 1, by omega⟩
    have hi : i < p.length := by omega
    have hb := bt_list ⟨(p ++ 10 :: t).toArray⟩ i (by simp; omega)
    have hg : (⟨(p ++ 10 :: t).toArray⟩ : ByteArray).data.toList[i]'(by simp; omega) = p[i] := by simp [hi]
    rw [hg] at hb
    have hne : ¬ (bt ⟨(p ++ 10 :: t).toArray⟩ (i : Int)) = 10 := by
      rw [hb]
      intro hq
      have e : p[i] = 10 := (byte_is (p[i]) 10 (by omega)).1 hq
      exact hp (e ▸ List.getElem_mem hi)
    simp only [proofmarklaw30_behind.l0]
    rw [if_pos (by rw [hsz]; omega), if_pos (by omega), if_neg hne, wrap_one i (by omega)]
    exact ih k (i + 1) (by omega) (by omega) (by omega)
theorem behind_f (p t : List UInt8) (hp : (10 : UInt8) ∉ p) (hs : p.length < 1000000) (k : Nat) (hk : p.length < k) : proofmarklaw30_behind.f k ⟨(p ++ 10 :: t).toArray⟩ = some (⟨t.toArray⟩, true) := by
  unfold proofmarklaw30_behind.f
  exact behind_l0 p t hp hs p.length k 0 (by omega) (by omega) hk
/-! ### tidy -/
def tidyR (x : S105) : S105 := if plainB x.f1 = true then x else ⟨x.f0, ⟨#[112]⟩, x.f2⟩
theorem tidy_l0 (n0 : List S125) (n1 : List S72) (n2 : List S114) (n4 : List S72) (ps : List S105) (hl : ps.length ≤ 1000) (hn : ∀ x ∈ ps, x.f1.size ≤ 12) (d : Nat) : ∀ (k i : Nat), ps.length - i = d → i ≤ ps.length → d + 20 < k → proofmarklaw30_tidy.l0 k (i : Int) n0 n1 n2 ((ps.take i).map tidyR ++ ps.drop i) n4 = some (n0, n1, n2, ps.map tidyR, n4) := by
  induction d with
  | zero =>
    intro k i h1 h2 h3
    obtain rfl : i = ps.length := by omega
    obtain ⟨k, rfl⟩ : ∃ q, k = q + 1 := ⟨k - 1, by omega⟩
    simp only [proofmarklaw30_tidy.l0]
    rw [if_neg (by simp)]
    simp
  | succ d ih =>
    intro k i h1 h2 h3
    obtain ⟨k, rfl⟩ : ∃ q, k = q + 1 := ⟨k - 1, by omega⟩
    have hi : i < ps.length := by omega
    have hlen : ((ps.take i).map tidyR ++ ps.drop i).length = ps.length := by simp; omega
    have hti : ((ps.take i).map tidyR).length = i := by simp; omega
    have hr : rd_T105 ((ps.take i).map tidyR ++ ps.drop i) (i : Int) = ps[i] := by
      unfold rd_T105
      rw [Int.toNat_natCast, List.getD_eq_getElem?_getD, List.getElem?_append_right (by omega), hti, Nat.sub_self, List.drop_eq_getElem_cons hi]
      rfl
    have hsz := hn ps[i] (List.getElem_mem hi)
    have hnx := ih k (i + 1) (by omega) (by omega) (by omega)
    simp only [proofmarklaw30_tidy.l0, hr]
    rw [if_pos (by rw [hlen]; omega), if_pos (by omega), plain_f _ (by omega) k (by omega)]
    simp only [Option.bind_some]
    rw [wrap_one i (by omega), Int.toNat_natCast]
    rw [← take_push tidyR ps i hi] at hnx
    by_cases hp : plainB ps[i].f1 = true
    · rw [if_pos hp, List.drop_eq_getElem_cons hi]
      have : tidyR ps[i] = ps[i] := by unfold tidyR; rw [if_pos hp]
      rw [this] at hnx
      simpa using hnx
    · rw [if_neg hp]
      have : tidyR ps[i] = ⟨ps[i].f0, ⟨#[112]⟩, ps[i].f2⟩ := by unfold tidyR; rw [if_neg hp]
      rw [this] at hnx
      rw [List.set_append_right _ _ (by omega), hti, Nat.sub_self, List.drop_eq_getElem_cons hi, List.set_cons_zero]
      simpa using hnx
theorem tidy_f (n0 : List S125) (n1 : List S72) (n2 : List S114) (n3 : List S105) (n4 : List S72) (k : Nat) (hk : 100 < k) : proofmarklaw30_tidy.f k n0 n1 n2 n3 n4 = some (n0.take 40, (n1.take 20).map cutP, (n2.take 20).map cutC, ((n3.take 40).map cutR).map tidyR, []) := by
  unfold proofmarklaw30_tidy.f
  rw [few30_f n0 n1 n2 n3 n4 k (by omega)]
  simp only [Option.bind_some]
  have := tidy_l0 (n0.take 40) ((n1.take 20).map cutP) ((n2.take 20).map cutC) [] ((n3.take 40).map cutR) (by simp; omega) (fun x hx => by
    obtain ⟨y, _, rfl⟩ := List.mem_map.1 hx
    exact cutS_size y.f1) ((n3.take 40).map cutR).length k 0 (by omega) (by omega) (by simp; omega)
  simpa using this
end Go.Proofs.YtmfekngjhiofaaaGreatDoor.Q
