/-
  ReportFirst: the plain law, put to the walk.
-/
import Derived.Test.YtmfekngjhiofaaaDoorHFirst
import Derived.Test.YtmfekngjhiofaaaDoorPVerdict
import Derived.Test.YtmfekngjhiofaaaDoorPHead
set_option linter.unusedVariables false
set_option linter.unusedSimpArgs false
namespace Go.Proofs.YtmfekngjhiofaaaDoor.Q
open Go.RowKit Go.Proofs.YtmfekngjhiofaaaDoorW.PrintWords Go.Proofs.YtmfekngjhiofaaaDoorW.PrintLast Go.Proofs.YtmfekngjhiofaaaDoorW.PrintMore
theorem headF_at (d : Nat) : proofmarklaw30_head.f (12 + d) = some true := by
  induction d with
  | zero => exact head_true
  | succ d ih => exact proofmarklaw30_head.mono _ _ ih
theorem headF_k (k : Nat) (hk : 12 ≤ k) : proofmarklaw30_head.f k = some true := by
  have := headF_at (k - 12)
  rwa [show 12 + (k - 12) = k by omega] at this
theorem app_line {a b : ByteArray} (ha : (10 : UInt8) ∉ a.data.toList) (hb : (10 : UInt8) ∉ b.data.toList) : (10 : UInt8) ∉ (a ++ b).data.toList := by
  rw [ByteArray.data_append]; simp only [Array.toList_append, List.mem_append]; exact fun h => h.elim ha hb
theorem numB_line (n : Int) : (10 : UInt8) ∉ (numB n).data.toList := by unfold numB; simpa using itoa_line n
theorem saysB_line (kind vk vK : Int) (n : Nat) : (10 : UInt8) ∉ (saysB kind vk vK n).data.toList := by
  unfold saysB
  split
  · refine app_line (app_line (app_line ?_ (by decide)) (numB_line _)) (by decide)
    split <;> decide
  · split
    · split
      · refine app_line (app_line (app_line ?_ (by decide)) (numB_line _)) (by decide)
        split <;> decide
      · refine app_line (app_line ?_ (by decide)) (numB_line _)
        split <;> decide
    · split
      · decide
      · split <;> decide
theorem kindB_line (k : Int) : (10 : UInt8) ∉ (kindB k).data.toList := by
  unfold kindB
  split
  · decide
  · split
    · decide
    · split <;> decide
theorem headB_line (x : S73) (vk vK : Int) (n : Nat) (h : (10 : UInt8) ∉ x.f1.data.toList) : (10 : UInt8) ∉ (headB x vk vK n).data.toList := by
  unfold headB
  exact app_line (app_line (app_line (app_line (kindB_line _) (by decide)) h) (by decide)) (saysB_line _ _ _ _)
theorem numB_len (n : Int) (h : (Lit.int .i64 n).wf = true) : (numB n).size ≤ 21 := numB_size n h
theorem kindB_len (k : Int) : (kindB k).size ≤ 10 := by
  unfold kindB
  split
  · decide
  · split
    · decide
    · split <;> decide
theorem saysB_len (kind vk vK : Int) (n : Nat) (hK : (Lit.int .i64 vK).wf = true) (hn : n ≤ 1000) : (saysB kind vk vK n).size ≤ 100 := by
  have h1 := numB_size vK hK
  have h2 := numB_size (n : Int) (wf_nat n (by omega))
  have c1 : ∀ k : Int, (if k = 10 then (⟨#[114, 101, 97, 99, 104, 101, 100]⟩ : ByteArray) else (⟨#[118, 105, 111, 108, 97, 116, 101, 100]⟩ : ByteArray)).size ≤ 20 := fun k => by split <;> decide
  have c2 : ∀ k : Int, (if k = 10 then (⟨#[110, 101, 118, 101, 114, 32, 114, 101, 97, 99, 104, 101, 100]⟩ : ByteArray) else (⟨#[112, 114, 111, 118, 101, 100]⟩ : ByteArray)).size ≤ 20 := fun k => by split <;> decide
  have d1 := c1 kind
  have d2 := c2 kind
  unfold saysB
  split
  · simp only [ByteArray.size_append]
    have e1 : (⟨#[32, 105, 110, 32]⟩ : ByteArray).size = 4 := rfl
    have e2 : (⟨#[32, 99, 121, 99, 108, 101, 115]⟩ : ByteArray).size = 7 := rfl
    omega
  · split
    · split
      · simp only [ByteArray.size_append]
        have e1 : (⟨#[32, 98, 121, 32]⟩ : ByteArray).size = 4 := rfl
        have e2 : (⟨#[32, 99, 108, 97, 117, 115, 101, 115]⟩ : ByteArray).size = 8 := rfl
        omega
      · simp only [ByteArray.size_append]
        have e1 : (⟨#[32, 97, 116, 32, 100, 101, 112, 116, 104, 32]⟩ : ByteArray).size = 10 := rfl
        omega
    · split
      · decide
      · split <;> decide
theorem headB_len (x : S73) (vk vK : Int) (n : Nat) (hx : x.f1.size ≤ 100) (hK : (Lit.int .i64 vK).wf = true) (hn : n ≤ 1000) : (headB x vk vK n).data.toList.length ≤ 300 := by
  have h1 := kindB_len x.f0
  have h2 := saysB_len x.f0 vk vK n hK hn
  have e : (headB x vk vK n).data.toList.length = (headB x vk vK n).size := by simp
  rw [e]
  unfold headB
  simp only [ByteArray.size_append]
  have e1 : (⟨#[32]⟩ : ByteArray).size = 1 := rfl
  have e2 : (⟨#[58, 32]⟩ : ByteArray).size = 2 := rfl
  omega
theorem tidy_prop {l : List S73} {x : S73} (hw : ∀ p ∈ l, (Lit.int .i64 p.f0).wf = true) (hx : x ∈ ((l.take 40).map cutR).map tidyR) : x.f1.size ≤ 12 ∧ (10 : UInt8) ∉ x.f1.data.toList ∧ (Lit.int .i64 x.f0).wf = true := by
  obtain ⟨y, hy, rfl⟩ := List.mem_map.1 hx
  obtain ⟨z, hz, rfl⟩ := List.mem_map.1 hy
  have hwz := hw z (List.mem_of_mem_take hz)
  unfold tidyR
  split
  · rename_i hp
    refine ⟨cutS_size _, fun h10 => ?_, hwz⟩
    have := List.all_eq_true.1 hp 10 h10
    exact absurd this (by decide)
  · exact ⟨show (⟨#[112]⟩ : ByteArray).size ≤ 12 by decide, show (10 : UInt8) ∉ (⟨#[112]⟩ : ByteArray).data.toList by decide, hwz⟩
theorem rowsP_len (l : List (List Int)) : (rowsP l).length ≤ 30 ∧ ∀ x ∈ rowsP l, x.length ≤ 24 := by
  unfold rowsP
  refine ⟨by simp; omega, fun x hx => ?_⟩
  obtain ⟨y, _, rfl⟩ := List.mem_map.1 hx
  simp; omega
theorem text_size (p t : List UInt8) : ((⟨(p ++ 10 :: t).toArray⟩ : ByteArray).size : Int) - ((⟨t.toArray⟩ : ByteArray).size : Int) = ((p.length + 1 : Nat) : Int) := by
  show ((p ++ 10 :: t).toArray.size : Int) - (t.toArray.size : Int) = _
  simp; omega
theorem text_head (p t : List UInt8) : ((⟨(p ++ 10 :: t).toArray⟩ : ByteArray).extract 0 (p.length + 1)).toList = p ++ [10] := by
  rw [ByteArray.toList_eq, ByteArray.data_extract, Array.toList_extract]
  simp only [List.extract_eq_take_drop, List.drop_zero]
  rw [show p ++ 10 :: t = (p ++ [10]) ++ t by simp, Nat.sub_zero]
  exact List.take_left' (by simp)
theorem ReportFirst (k : Nat) (hk : 5000 ≤ k) (A0_0 : Option Addr) (c0_0 : Nat) (l0_0 : List S96) (A0_1 : Option Addr) (c0_1 : Nat) (l0_1 : List S111) (A0_2 : Option Addr) (c0_2 : Nat) (l0_2 : List S94) (A0_3 : Option Addr) (c0_3 : Nat) (l0_3 : List S73) (A0_4 : Option Addr) (c0_4 : Nat) (l0_4 : List S111) (a1_0 a1_1 : Int) (A1_2 : Option Addr) (c1_2 : Nat) (l1_2 : List (List Int)) (A1_3 : Option Addr) (c1_3 : Nat) (l1_3 : List (List Int)) (a2 : Int) (w : World) (hG : Tab w)
    (hr0_0 : Kd.C k96 w A0_0 l0_0.length l0_0) (hc0_0 : l0_0.length ≤ c0_0) (hr0_1 : Kd.C k111 w A0_1 l0_1.length l0_1) (hc0_1 : l0_1.length ≤ c0_1) (hr0_2 : Kd.C k94 w A0_2 l0_2.length l0_2) (hc0_2 : l0_2.length ≤ c0_2) (hr0_3 : Kd.C k73 w A0_3 l0_3.length l0_3) (hc0_3 : l0_3.length ≤ c0_3) (hr0_4 : Kd.C k111 w A0_4 l0_4.length l0_4) (hc0_4 : l0_4.length ≤ c0_4) (hr1_2 : Kd.C (Kd.slice 3 (Kd.int .i64)) w A1_2 l1_2.length l1_2) (hc1_2 : l1_2.length ≤ c1_2) (hr1_3 : Kd.C (Kd.slice 3 (Kd.int .i64)) w A1_3 l1_3.length l1_3) (hc1_3 : l1_3.length ≤ c1_3)
    (hw : ∀ p ∈ l0_3, (Lit.int .i64 p.f0).wf = true) (hK : (Lit.int .i64 a1_1).wf = true) :
    Calls Tryd.prog 5 #[.agg #[.slice A0_0 l0_0.length c0_0, .slice A0_1 l0_1.length c0_1, .slice A0_2 l0_2.length c0_2, .slice A0_3 l0_3.length c0_3, .slice A0_4 l0_4.length c0_4], .agg #[.int .i64 a1_0, .int .i64 a1_1, .slice A1_2 l1_2.length c1_2, .slice A1_3 l1_3.length c1_3], .int .i64 a2] w fun e w' => e = .returned (.bool true) ∧ Below w.heap.size w w' := by
  have e5 := tidy_f l0_0 l0_1 l0_2 l0_3 l0_4 k (by omega)
  have e6 := fit_f a1_0 a1_1 l1_2 l1_3 k (by omega)
  have hs : Small ((l0_1.take 20).map cutP) ((l0_2.take 20).map cutC) := ⟨by simp; omega, by simp; omega, fun x hx => by
    obtain ⟨y, _, rfl⟩ := List.mem_map.1 hx
    have := cutS_size y.f0
    show (cutS y.f0).size ≤ 100; omega, fun x hx => by
    obtain ⟨y, _, rfl⟩ := List.mem_map.1 hx
    have := cutS_size y.f0
    show (cutS y.f0).size ≤ 100; omega⟩
  have hP : ∀ x ∈ ((l0_3.take 40).map cutR).map tidyR, _ := fun x hx => tidy_prop hw hx
  generalize ((l0_3.take 40).map cutR).map tidyR = m3 at e5 hP
  generalize (l0_1.take 20).map cutP = m1 at e5 hs
  generalize (l0_2.take 20).map cutC = m2 at e5 hs
  generalize l0_0.take 40 = m0 at e5
  obtain ⟨i1, i2⟩ := rowsP_len l1_3
  obtain ⟨j1, j2⟩ := rowsP_len l1_2
  generalize rowsP l1_3 = inv at e6 i1 i2
  generalize rowsP l1_2 = tr at e6 j1 j2
  by_cases hr : a2 < 0 ∨ (m3.length : Int) ≤ a2
  · exact proofmarklaw30_ReportFirst.walk k A0_0 c0_0 l0_0 A0_1 c0_1 l0_1 A0_2 c0_2 l0_2 A0_3 c0_3 l0_3 A0_4 c0_4 l0_4 a1_0 a1_1 A1_2 c1_2 l1_2 A1_3 c1_3 l1_3 a2 m0 m1 m2 m3 [] a1_0 a1_1 tr inv ⟨#[]⟩ ⟨#[]⟩ ⟨#[]⟩ ⟨#[]⟩ false false _ _ w hG hr0_0 hc0_0 hr0_1 hc0_1 hr0_2 hc0_2 hr0_3 hc0_3 hr0_4 hc0_4 hr1_2 hc1_2 hr1_3 hc1_3 (headF_k k (by omega)) e5 e6 (by omega)
      (verdict_out k m0 m1 m2 m3 [] a2 a1_0 a1_1 tr inv hr) (verdict_out k m0 m1 m2 m3 [] a2 a1_0 a1_1 _ _ hr) (behind_none k (by omega)) (behind_none k (by omega)) rfl rfl (Or.inr ⟨rfl, rfl, rfl, rfl, hr⟩)
  · have hx : rd_T73 m3 a2 ∈ m3 := by
      have : a2.toNat < m3.length := by omega
      unfold rd_T73
      rw [List.getD_eq_getElem?_getD, List.getElem?_eq_getElem this]
      exact List.getElem_mem this
    obtain ⟨x1, x2, x3⟩ := hP _ hx
    obtain ⟨t, ht⟩ := verdict_in k m0 m1 m2 m3 [] a2 a1_0 a1_1 tr inv hs (by omega) hr (by omega) x3 hK (by omega) (by omega) (fun z hz => by have := i2 z hz; omega)
    obtain ⟨t', ht'⟩ := verdict_in k m0 m1 m2 m3 [] a2 a1_0 a1_1 [] (List.replicate ((inv.length : Int) : Int).toNat []) hs (by omega) hr (by omega) x3 hK (by simp) (by rw [List.length_replicate]; omega) (fun z hz => by rw [(List.mem_replicate.1 hz).2]; simp)
    rw [List.length_replicate, Int.toNat_natCast] at ht'
    have y1 := headB_line (rd_T73 m3 a2) a1_0 a1_1 inv.length x2
    have y2 := headB_len (rd_T73 m3 a2) a1_0 a1_1 inv.length (by omega) hK (by omega)
    generalize (headB (rd_T73 m3 a2) a1_0 a1_1 inv.length).data.toList = p at ht ht' y1 y2
    have s1 := text_size p t
    have s2 := text_size p t'
    have w1 : wrap64 (((⟨(p ++ 10 :: t).toArray⟩ : ByteArray).size : Int) - ((⟨t.toArray⟩ : ByteArray).size : Int)) = ((p.length + 1 : Nat) : Int) := by rw [s1]; unfold wrap64; omega
    have w2 : wrap64 (((⟨(p ++ 10 :: t').toArray⟩ : ByteArray).size : Int) - ((⟨t'.toArray⟩ : ByteArray).size : Int)) = ((p.length + 1 : Nat) : Int) := by rw [s2]; unfold wrap64; omega
    refine proofmarklaw30_ReportFirst.walk k A0_0 c0_0 l0_0 A0_1 c0_1 l0_1 A0_2 c0_2 l0_2 A0_3 c0_3 l0_3 A0_4 c0_4 l0_4 a1_0 a1_1 A1_2 c1_2 l1_2 A1_3 c1_3 l1_3 a2 m0 m1 m2 m3 [] a1_0 a1_1 tr inv ⟨(p ++ 10 :: t).toArray⟩ ⟨(p ++ 10 :: t').toArray⟩ ⟨t.toArray⟩ ⟨t'.toArray⟩ true true ((p.length + 1 : Nat) : Int) ((p.length + 1 : Nat) : Int) w hG hr0_0 hc0_0 hr0_1 hc0_1 hr0_2 hc0_2 hr0_3 hc0_3 hr0_4 hc0_4 hr1_2 hc1_2 hr1_3 hc1_3 (headF_k k (by omega)) e5 e6 (by omega)
      ht (by rw [Int.toNat_natCast]; exact ht') (behind_f p t y1 (by omega) k (by omega)) (behind_f p t' y1 (by omega) k (by omega)) w1 w2 (Or.inl ⟨rfl, rfl, ⟨by omega, by omega⟩, ⟨by omega, by omega⟩, ?_⟩)
    rw [Int.toNat_natCast, text_head, text_head]
    simp
end Go.Proofs.YtmfekngjhiofaaaDoor.Q
