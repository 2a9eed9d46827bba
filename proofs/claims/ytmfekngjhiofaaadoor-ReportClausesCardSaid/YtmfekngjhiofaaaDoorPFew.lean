/-
  Plain: the document's Few, Rows, Fit and Plain, loop by loop.
-/
import Derived.Test.YtmfekngjhiofaaaDoorQx12
import Derived.Test.YtmfekngjhiofaaaDoorQx13
import Derived.Test.YtmfekngjhiofaaaDoorQx16
set_option linter.unusedVariables false
set_option linter.unusedSimpArgs false
namespace Go.Proofs.YtmfekngjhiofaaaDoor.Q
open Go.RowKit Go.Proofs.YtmfekngjhiofaaaDoorW.PrintWords Go.Proofs.YtmfekngjhiofaaaDoorW.PrintLast Go.Proofs.YtmfekngjhiofaaaDoorW.PrintMore
theorem wrap_one (i : Nat) (h : i < 4611686018427387904) : wrap64 ((i : Int) + 1) = ((i + 1 : Nat) : Int) := by unfold wrap64; omega
theorem mn_nat (n m : Nat) : mn (n : Int) (m : Int) = ((min n m : Nat) : Int) := by unfold mn; split <;> omega
def cutS (s : ByteArray) : ByteArray := s.extract 0 (min s.size 12)
def cutP (x : S111) : S111 := ⟨cutS x.f0, x.f1⟩
def cutC (x : S94) : S94 := ⟨cutS x.f0, x.f1, x.f2, x.f3⟩
def cutR (x : S73) : S73 := ⟨x.f0, cutS x.f1, x.f2⟩
theorem cutS_size (s : ByteArray) : (cutS s).size ≤ 12 := by unfold cutS; rw [ByteArray.size_extract]; omega
theorem take_push {α β : Type} (f : α → β) (l : List α) (i : Nat) (h : i < l.length) : (l.take i).map f ++ [f l[i]] = (l.take (i + 1)).map f := by
  rw [List.take_add_one, List.getElem?_eq_getElem h, List.map_append]; rfl
theorem take_end {α β : Type} (f : α → β) (l : List α) (i n : Nat) (h : min l.length n - i = 0) (hi : i ≤ min l.length n) : (l.take i).map f = (l.take n).map f := by
  by_cases hn : n ≤ l.length
  · rw [show i = n by omega]
  · rw [List.take_of_length_le (by omega), List.take_of_length_le (by omega)]
theorem few27_l1 (n0 : List S96) (n1 : List S111) (n2 : List S94) (n3 : List S73) (n4 : List S111) (p : List S111) (d : Nat) : ∀ (k i : Nat), min n2.length 20 - i = d → i ≤ min n2.length 20 → d < k → proofmarkref27_Few.l1 k (i : Int) n0 n1 n2 n3 n4 p ((n2.take i).map cutC) = some ([], p, (n2.take 20).map cutC, [], []) := by
  induction d with
  | zero =>
    intro k i h1 h2 h3
    obtain ⟨k, rfl⟩ : ∃ m, k = m + 1 := ⟨k - 1, by omega⟩
    simp only [proofmarkref27_Few.l1]
    rw [take_end cutC n2 i 20 h1 h2]
    by_cases hi : (i : Int) < (n2.length : Int)
    · rw [if_pos hi, if_neg (by omega)]
    · rw [if_neg hi]
  | succ d ih =>
    intro k i h1 h2 h3
    obtain ⟨k, rfl⟩ : ∃ m, k = m + 1 := ⟨k - 1, by omega⟩
    have hi : i < n2.length := by omega
    have hr : rd_T94 n2 (i : Int) = n2[i] := by simp [rd_T94, hi]
    have hm := mn_nat (n2[i]).f0.size 12
    have hl : ((n2.take i).map cutC).length ≤ 20 := by simp; omega
    simp only [proofmarkref27_Few.l1, hr]
    rw [show (12 : Int) = ((12 : Nat) : Int) from rfl, hm, if_pos (by omega), if_pos (by omega), if_pos (by omega), if_pos (by omega), if_pos (by omega), if_pos (by omega), wrap_one i (by omega), Int.toNat_natCast]
    have := ih k (i + 1) (by omega) (by omega) (by omega)
    rw [← take_push cutC n2 i hi] at this
    exact this
theorem few27_l0 (n0 : List S96) (n1 : List S111) (n2 : List S94) (n3 : List S73) (n4 : List S111) (d : Nat) : ∀ (k i : Nat), min n1.length 20 - i = d → i ≤ min n1.length 20 → d + 30 < k → proofmarkref27_Few.l0 k (i : Int) n0 n1 n2 n3 n4 ((n1.take i).map cutP) = some ([], (n1.take 20).map cutP, (n2.take 20).map cutC, [], []) := by
  induction d with
  | zero =>
    intro k i h1 h2 h3
    obtain ⟨k, rfl⟩ : ∃ m, k = m + 1 + 1 := ⟨k - 2, by omega⟩
    simp only [proofmarkref27_Few.l0, proofmarkref27_Few.j1]
    rw [take_end cutP n1 i 20 h1 h2]
    have hL := few27_l1 n0 n1 n2 n3 n4 ((n1.take 20).map cutP) (min n2.length 20) k 0 (by omega) (by omega) (by omega)
    by_cases hi : (i : Int) < (n1.length : Int)
    · rw [if_pos hi, if_neg (by omega)]; exact hL
    · rw [if_neg hi]; exact hL
  | succ d ih =>
    intro k i h1 h2 h3
    obtain ⟨k, rfl⟩ : ∃ m, k = m + 1 := ⟨k - 1, by omega⟩
    have hi : i < n1.length := by omega
    have hr : rd_T111 n1 (i : Int) = n1[i] := by simp [rd_T111, hi]
    have hm := mn_nat (n1[i]).f0.size 12
    have hl : ((n1.take i).map cutP).length ≤ 20 := by simp; omega
    simp only [proofmarkref27_Few.l0, hr]
    rw [show (12 : Int) = ((12 : Nat) : Int) from rfl, hm, if_pos (by omega), if_pos (by omega), if_pos (by omega), if_pos (by omega), if_pos (by omega), if_pos (by omega), wrap_one i (by omega), Int.toNat_natCast]
    have := ih k (i + 1) (by omega) (by omega) (by omega)
    rw [← take_push cutP n1 i hi] at this
    exact this
theorem few30_l0 (n0 : List S96) (n1 : List S111) (n2 : List S94) (n3 : List S73) (n4 : List S111) (r0 : List S96) (r1 : List S111) (r2 : List S94) (r4 : List S111) (d : Nat) : ∀ (k i : Nat), min n3.length 40 - i = d → i ≤ min n3.length 40 → d < k → proofmarkref30_Few.l0 k (i : Int) n0 n1 n2 n3 n4 r0 r1 r2 ((n3.take i).map cutR) r4 = some (r0, r1, r2, (n3.take 40).map cutR, r4) := by
  induction d with
  | zero =>
    intro k i h1 h2 h3
    obtain ⟨k, rfl⟩ : ∃ m, k = m + 1 := ⟨k - 1, by omega⟩
    simp only [proofmarkref30_Few.l0]
    rw [take_end cutR n3 i 40 h1 h2]
    by_cases hi : (i : Int) < (n3.length : Int)
    · rw [if_pos hi, if_neg (by omega)]
    · rw [if_neg hi]
  | succ d ih =>
    intro k i h1 h2 h3
    obtain ⟨k, rfl⟩ : ∃ m, k = m + 1 := ⟨k - 1, by omega⟩
    have hi : i < n3.length := by omega
    have hr : rd_T73 n3 (i : Int) = n3[i] := by simp [rd_T73, hi]
    have hm := mn_nat (n3[i]).f1.size 12
    have hl : ((n3.take i).map cutR).length ≤ 40 := by simp; omega
    simp only [proofmarkref30_Few.l0, hr]
    rw [show (12 : Int) = ((12 : Nat) : Int) from rfl, hm, if_pos (by omega), if_pos (by omega), if_pos (by omega), if_pos (by omega), if_pos (by omega), if_pos (by omega), wrap_one i (by omega), Int.toNat_natCast]
    have := ih k (i + 1) (by omega) (by omega) (by omega)
    rw [← take_push cutR n3 i hi] at this
    exact this
theorem few30_f (n0 : List S96) (n1 : List S111) (n2 : List S94) (n3 : List S73) (n4 : List S111) (k : Nat) (hk : 60 < k) : proofmarkref30_Few.f k n0 n1 n2 n3 n4 = some (n0.take 40, (n1.take 20).map cutP, (n2.take 20).map cutC, (n3.take 40).map cutR, []) := by
  unfold proofmarkref30_Few.f proofmarkref27_Few.f
  have h0 := few27_l0 n0 n1 n2 n3 n4 (min n1.length 20) k 0 (by omega) (by omega) (by omega)
  have h0' : proofmarkref27_Few.l0 k 0 n0 n1 n2 n3 n4 [] = _ := h0
  rw [h0']
  simp only [Option.bind_some]
  rw [show (40 : Int) = ((40 : Nat) : Int) from rfl, mn_nat, if_pos (by omega), if_pos (by omega)]
  rw [if_pos (by simp; omega), Int.toNat_natCast]
  have h1 := few30_l0 n0 n1 n2 n3 n4 (n0.take (min n0.length 40)) ((n1.take 20).map cutP) ((n2.take 20).map cutC) [] (min n3.length 40) k 0 (by omega) (by omega) (by omega)
  have e : n0.take (min n0.length 40) = n0.take 40 := by rw [List.take_eq_take_iff]; omega
  rw [e] at h1 ⊢
  exact h1
def rowsP (l : List (List Int)) : List (List Int) := (l.take 30).map (·.take 24)
theorem rows_l0 (l : List (List Int)) (d : Nat) : ∀ (k i : Nat), min l.length 30 - i = d → i ≤ min l.length 30 → d < k → proofmarkref27_Rows.l0 k l ((l.take i).map (·.take 24)) (i : Int) = some (rowsP l) := by
  induction d with
  | zero =>
    intro k i h1 h2 h3
    obtain ⟨k, rfl⟩ : ∃ m, k = m + 1 := ⟨k - 1, by omega⟩
    simp only [proofmarkref27_Rows.l0]
    rw [take_end (·.take 24) l i 30 h1 h2]
    by_cases hi : (i : Int) < (l.length : Int)
    · rw [if_pos hi, if_neg (by omega)]; rfl
    · rw [if_neg hi]; rfl
  | succ d ih =>
    intro k i h1 h2 h3
    obtain ⟨k, rfl⟩ : ∃ m, k = m + 1 := ⟨k - 1, by omega⟩
    have hi : i < l.length := by omega
    have hr : rd_L23 l (i : Int) = l[i] := by simp [rd_L23, hi]
    have hm := mn_nat (l[i]).length 24
    have hl : ((l.take i).map (·.take 24)).length ≤ 30 := by simp; omega
    simp only [proofmarkref27_Rows.l0, hr, Option.bind_some, List.nil_append, List.length_nil]
    rw [show (24 : Int) = ((24 : Nat) : Int) from rfl, hm, if_pos (by omega), if_pos (by omega), if_pos (by omega), if_pos (by omega), if_pos (by omega), Int.toNat_natCast]
    rw [if_pos (by simp; omega), if_pos (by omega), wrap_one i (by omega)]
    have e : (l[i]).take (min (l[i]).length 24) = (l[i]).take 24 := by rw [List.take_eq_take_iff]; omega
    have := ih k (i + 1) (by omega) (by omega) (by omega)
    rw [← take_push (·.take 24) l i hi] at this
    rw [e]
    exact this
theorem fit_f (a b : Int) (t v : List (List Int)) (k : Nat) (hk : 60 < k) : proofmarkref30_Fit.f k a b t v = some (a, b, rowsP t, rowsP v) := by
  unfold proofmarkref30_Fit.f proofmarkref27_Rows.f
  have h0 : proofmarkref27_Rows.l0 k t [] 0 = some (rowsP t) := rows_l0 t (min t.length 30) k 0 (by omega) (by omega) (by omega)
  have h1 : proofmarkref27_Rows.l0 k v [] 0 = some (rowsP v) := rows_l0 v (min v.length 30) k 0 (by omega) (by omega) (by omega)
  rw [h0, h1]; rfl
/-- a byte that a plain name does not hold -/
def oddC (c : UInt8) : Bool := c == 32 || c == 10 || c == 61 || c == 124 || c == 126 || c == 58
def plainB (s : ByteArray) : Bool := s.data.toList.all fun c => !oddC c
theorem bt_list (s : ByteArray) (i : Nat) (hi : i < s.data.toList.length) : bt s (i : Int) = ((s.data.toList[i]).toNat : Int) := by
  have hq : (i : Int).toNat < s.size := by simpa using hi
  rw [← bt_at s (i : Int) hq]
  simp [ByteArray.getElem_eq_getElem_data]
theorem byte_is (c : UInt8) (n : Nat) (hn : n < 256) : ((c.toNat : Int) = (n : Int)) ↔ c = UInt8.ofNat n := by
  constructor
  · intro h
    apply UInt8.toNat_inj.1
    rw [UInt8.toNat_ofNat']; omega
  · intro h
    subst h
    rw [UInt8.toNat_ofNat']; omega
theorem plain_l0 (s : ByteArray) (hs : s.size < 1000000) (d : Nat) : ∀ (k i : Nat), s.size - i = d → i ≤ s.size → d < k → proofmarkref27_Plain.l0 k s (i : Int) = some ((s.data.toList.drop i).all fun c => !oddC c) := by
  have hsl : s.data.toList.length = s.size := by simp
  induction d with
  | zero =>
    intro k i h1 h2 h3
    obtain ⟨k, rfl⟩ : ∃ m, k = m + 1 := ⟨k - 1, by omega⟩
    simp only [proofmarkref27_Plain.l0]
    rw [if_neg (by omega), List.drop_eq_nil_of_le (by omega)]; rfl
  | succ d ih =>
    intro k i h1 h2 h3
    obtain ⟨k, rfl⟩ : ∃ m, k = m + 1 := ⟨k - 1, by omega⟩
    have hi : i < s.data.toList.length := by omega
    simp only [proofmarkref27_Plain.l0]
    rw [if_pos (by omega), if_pos (by omega), bt_list s i hi, wrap_one i (by omega), ih k (i + 1) (by omega) (by omega) (by omega), List.drop_eq_getElem_cons hi, List.all_cons]
    generalize s.data.toList[i] = c
    have e0 : ((c.toNat : Int) = 32) ↔ c = 32 := byte_is c 32 (by omega)
    have e1 : ((c.toNat : Int) = 10) ↔ c = 10 := byte_is c 10 (by omega)
    have e2 : ((c.toNat : Int) = 61) ↔ c = 61 := byte_is c 61 (by omega)
    have e3 : ((c.toNat : Int) = 124) ↔ c = 124 := byte_is c 124 (by omega)
    have e4 : ((c.toNat : Int) = 126) ↔ c = 126 := byte_is c 126 (by omega)
    have e5 : ((c.toNat : Int) = 58) ↔ c = 58 := byte_is c 58 (by omega)
    by_cases q0 : c = 32
    · rw [if_pos (e0.2 q0), q0]; rfl
    rw [if_neg (fun h => q0 (e0.1 h))]
    by_cases q1 : c = 10
    · rw [if_pos (e1.2 q1), q1]; rfl
    rw [if_neg (fun h => q1 (e1.1 h))]
    by_cases q2 : c = 61
    · rw [if_pos (e2.2 q2), q2]; rfl
    rw [if_neg (fun h => q2 (e2.1 h))]
    by_cases q3 : c = 124
    · rw [if_pos (e3.2 q3), q3]; rfl
    rw [if_neg (fun h => q3 (e3.1 h))]
    by_cases q4 : c = 126
    · rw [if_pos (e4.2 q4), q4]; rfl
    rw [if_neg (fun h => q4 (e4.1 h))]
    by_cases q5 : c = 58
    · rw [if_pos (e5.2 q5), q5]; rfl
    rw [if_neg (fun h => q5 (e5.1 h))]
    have : oddC c = false := by unfold oddC; simp [q0, q1, q2, q3, q4, q5]
    rw [this]; rfl
theorem plain_f (s : ByteArray) (hs : s.size < 1000000) (k : Nat) (hk : s.size < k) : proofmarkref27_Plain.f k s = some (plainB s) := by
  unfold proofmarkref27_Plain.f plainB
  have := plain_l0 s hs s.size k 0 (by omega) (by omega) hk
  simpa using this
end Go.Proofs.YtmfekngjhiofaaaDoor.Q
