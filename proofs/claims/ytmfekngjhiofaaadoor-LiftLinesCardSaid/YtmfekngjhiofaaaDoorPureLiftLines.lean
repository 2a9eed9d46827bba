/-
  Plain: LiftLines' printed function answers true.
-/
import Derived.Test.YtmfekngjhiofaaaDoorLLiftLines
import Derived.Test.YtmfekngjhiofaaaDoorPTraceF
set_option linter.unusedVariables false
set_option linter.unusedSimpArgs false
namespace Go.Proofs.YtmfekngjhiofaaaDoor.Q
open Go.RowKit Go.Proofs.YtmfekngjhiofaaaDoorW.PrintWords Go.Proofs.YtmfekngjhiofaaaDoorW.PrintLast Go.Proofs.YtmfekngjhiofaaaDoorW.PrintMore
theorem rowsB_split (names : List ByteArray) : ∀ (tr : List (List Int)) (i n : Nat), rowsB names i tr = rowsB names i (tr.take n) ++ rowsB names (i + n) (tr.drop n)
  | [], i, n => by simp [rowsB]
  | r :: tr, i, 0 => by simp [rowsB]
  | r :: tr, i, n + 1 => by
    have ih := rowsB_split names tr (i + 1) n
    rw [List.take_succ_cons, List.drop_succ_cons]
    simp only [rowsB]
    rw [ih, List.append_assoc, show i + 1 + n = i + (n + 1) by omega]
theorem rowsB_count {names : List ByteArray} (hc : Clean names) : ∀ (tr : List (List Int)) (i : Nat), (rowsB names i tr).count 10 = tr.length
  | [], i => by simp [rowsB]
  | r :: tr, i => by
    have ih := rowsB_count hc tr (i + 1)
    have h0 := List.count_eq_zero.2 (lineOf_line hc i r)
    rw [lineOf_data] at h0
    show ((firstB i).data.toList ++ itemsB names r ++ [10] ++ rowsB names (i + 1) tr).count 10 = (r :: tr).length
    rw [List.count_append, List.count_append, h0, ih, List.length_cons]
    have e : ([10] : List UInt8).count 10 = 1 := rfl
    omega
theorem ll_loop (m : Nat) (t : List (List Int)) (s : ByteArray) (hm : m ≤ t.length) (ht : t.length ≤ 1000) (hr : ∀ x ∈ t, x.length ≤ 1000) (hs : s.size < 4611686018427387904) (d : Nat) : ∀ (k i c : Nat), i ≤ s.size → s.size - i = d → d + 3001 < k → c + (s.data.toList.drop i).count 10 = t.length → proofmarklaw27_LiftLines.l0 k (m : Int) true t s (t.take m) true (c : Int) (i : Int) = some true := by
  have hsl : s.data.toList.length = s.size := by simp
  induction d with
  | zero =>
    intro k i c h1 h2 h3 h4
    obtain ⟨k, rfl⟩ : ∃ m, k = m + 1 := ⟨k - 1, by omega⟩
    simp only [proofmarklaw27_LiftLines.l0]
    rw [if_neg (by omega), if_pos trivial, if_pos trivial, if_pos (by omega), if_pos (by omega), Int.toNat_natCast, sameRows_f (t.take m) (by simp; omega) (fun x hx => hr x (List.mem_of_mem_take hx)) k (by omega)]
    simp only [Option.bind_some, if_true]
    have h0 : (s.data.toList.drop i).count 10 = 0 := by rw [List.drop_eq_nil_of_le (by omega)]; rfl
    have hc : c = t.length := by omega
    subst hc
    simp
  | succ d ih =>
    intro k i c h1 h2 h3 h4
    obtain ⟨k, rfl⟩ : ∃ m, k = m + 1 := ⟨k - 1, by omega⟩
    have hi : i < s.data.toList.length := by omega
    have hb : bt s (i : Int) = ((s.data.toList[i]).toNat : Int) := by
      have hq : (i : Int).toNat < s.size := by omega
      rw [← bt_at s (i : Int) hq]
      simp [ByteArray.getElem_eq_getElem_data]
    rw [List.drop_eq_getElem_cons hi, List.count_cons] at h4
    simp only [proofmarklaw27_LiftLines.l0]
    rw [if_pos (by omega), if_pos (by omega), wrap_one i (by omega), hb]
    by_cases h10 : s.data.toList[i] = 10
    · rw [if_pos (by rw [h10]; rfl), wrap_one c (by omega)]
      rw [h10] at h4
      exact ih k (i + 1) (c + 1) (by omega) (by omega) (by omega) (by simp at h4 ⊢; omega)
    · rw [if_neg (by intro hq; apply h10; apply UInt8.toNat_inj.1; show _ = 10; omega)]
      refine ih k (i + 1) c (by omega) (by omega) (by omega) ?_
      have : (s.data.toList[i] == 10) = false := by simpa using h10
      rw [this] at h4
      simpa using h4
theorem ba_size (l : List UInt8) : (⟨l.toArray⟩ : ByteArray).size = l.length := by show l.toArray.size = _; rw [List.size_toArray]
theorem ba_take (a b : List UInt8) : (⟨(a ++ b).toArray⟩ : ByteArray).extract 0 a.length = ⟨a.toArray⟩ := by
  apply ba_list
  rw [ByteArray.data_extract, Array.toList_extract]
  simp
theorem LiftLines (k : Nat) (hk : 100000000 ≤ k) (n0 : List S96) (n1 : List S111) (n2 : List S94) (n3 : List S73) (n4 : List S111) (a : Int) (l1 : List S201) (l2 : List S202) (l3 : List S98) (l4 : List S204) (tr : List (List Int)) (l : List Int) (s : ByteArray) (x : Int) :
    proofmarklaw27_LiftLines.f k n0 n1 n2 n3 n4 a l1 l2 l3 l4 tr l s x = some true := by
  unfold proofmarklaw27_LiftLines.f
  rw [head_from k (by omega), fit27_f n0 n1 n2 n3 n4 a l1 l2 l3 l4 tr l s k (by omega), rows_f tr k (by omega)]
  simp only [Option.bind_some]
  obtain ⟨hl, hr⟩ := rowsP_len tr
  generalize rowsP tr = t at hl hr ⊢
  have hlen := trace_len n1 n2 t hl hr
  rw [trace_f n1 n2 t (by omega)]
  simp only [Option.bind_some]
  obtain ⟨k, rfl⟩ : ∃ q, k = q + 2 := ⟨k - 2, by omega⟩
  have hj : ∀ S : ByteArray, proofmarklaw27_LiftLines.j0 (k + 2) x true t S true [] (pinsC n1) (cellsC n2) [] [] = some true := by
    intro S
    simp only [proofmarklaw27_LiftLines.j0]
    rw [if_pos trivial]
  by_cases hne : (⟨(traceB (pinsC n1) (cellsC n2) t).toArray⟩ : ByteArray).toList = []
  · rw [if_pos hne]; exact hj _
  rw [if_neg hne]
  by_cases h0 : x < 0
  · rw [if_pos h0]; exact hj _
  rw [if_neg h0]
  by_cases h1 : x > (t.length : Int)
  · rw [decide_eq_true h1]; exact hj _
  rw [decide_eq_false h1]
  obtain ⟨m, rfl⟩ : ∃ m : Nat, x = m := ⟨x.toNat, by omega⟩
  clear hj
  have hm : m ≤ t.length := by omega
  have hne' : traceB (pinsC n1) (cellsC n2) t ≠ [] := by rw [ByteArray.toList_eq] at hne; exact hne
  have hc : (unlikeB (namesP (pinsC n1)) && unlikeB (namesC (cellsC n2))) = true ∧ t.all (rowOk (pinsC n1).length) = true := by
    unfold traceB at hne'
    split at hne'
    · assumption
    · exact absurd rfl hne'
  have hS : traceB (pinsC n1) (cellsC n2) t = rowsB ((pinsC n1).map (·.f0)) 0 t := by unfold traceB; rw [if_pos hc]
  have hcT : (t.take m).all (rowOk (pinsC n1).length) = true := List.all_eq_true.2 fun z hz => List.all_eq_true.1 hc.2 z (List.mem_of_mem_take hz)
  have hA : traceB (pinsC n1) (cellsC n2) (t.take m) = rowsB ((pinsC n1).map (·.f0)) 0 (t.take m) := by unfold traceB; rw [if_pos ⟨hc.1, hcT⟩]
  have hsp := rowsB_split ((pinsC n1).map (·.f0)) t 0 m
  rw [← hS, ← hA] at hsp
  have hcnt := rowsB_count (names_clean (Bool.and_eq_true_iff.1 hc.1).1) t 0
  rw [← hS] at hcnt
  have hback := back_of (pinsC n1) (cellsC n2) (t.take m) ⟨(traceB (pinsC n1) (cellsC n2) (t.take m)).toArray⟩ (by simp)
    (by
      by_cases he : t.take m = []
      · exact .inr ⟨he, hc.1⟩
      · refine .inl ?_
        show traceB (pinsC n1) (cellsC n2) (t.take m) ≠ []
        rw [hA]
        obtain ⟨w, ws, e⟩ := List.exists_cons_of_ne_nil he
        rw [e]
        simp [rowsB, rowB])
  simp only [proofmarklaw27_LiftLines.j0]
  rw [if_neg (by decide), if_pos (by omega), if_pos (by omega), Int.toNat_natCast, trace_f n1 n2 (t.take m) (by simp; omega)]
  simp only [Option.bind_some]
  generalize traceB (pinsC n1) (cellsC n2) (t.take m) = A at hsp hback ⊢
  generalize rowsB ((pinsC n1).map (·.f0)) (0 + m) (t.drop m) = R at hsp
  rw [hsp] at hlen hcnt ⊢
  have hz1 := ba_size A
  have hz2 := ba_size (A ++ R)
  have hzl : (A ++ R).length = A.length + R.length := List.length_append
  have hx : (⟨(A ++ R).toArray⟩ : ByteArray).extract 0 (((⟨A.toArray⟩ : ByteArray).size : Int)).toNat = ⟨A.toArray⟩ := by
    rw [hz1, Int.toNat_natCast]; exact ba_take A R
  rw [if_neg (by omega), if_pos (by omega), if_pos (by omega), hx]
  simp only [proofmarklaw27_LiftLines.j1]
  rw [if_neg (by simp), if_pos (by omega), if_pos (by omega), hx, back_f n1 n2 _ (by omega), hback]
  simp only [Option.bind_some]
  exact ll_loop m t ⟨(A ++ R).toArray⟩ hm (by omega) (fun z hz => by have := hr z hz; omega) (by omega) _ k 0 0 (by omega) rfl (by omega) (by simp [hcnt])
end Go.Proofs.YtmfekngjhiofaaaDoor.Q
