/-
  Plain: a number's digits, and a fault's line: one line feed, at its end; unlike faults have unlike lines.
-/
import Derived.Test.YtmfekngjhiofaaaDoorHFaults
set_option linter.unusedVariables false
set_option linter.unusedSimpArgs false
namespace Go.Proofs.YtmfekngjhiofaaaDoor.Q
open Go.RowKit Go.Proofs.YtmfekngjhiofaaaDoorW.PrintWords Go.Proofs.YtmfekngjhiofaaaDoorW.PrintLast Go.Proofs.YtmfekngjhiofaaaDoorW.PrintMore

theorem dec_digit (u : Nat) : ∀ c ∈ Lib.decDigits u, 48 ≤ c.toNat ∧ c.toNat ≤ 57 := by
  induction u using Nat.strongRecOn with
  | _ u ih =>
    intro c hc
    rw [Lib.decDigits] at hc
    split at hc
    · simp only [List.mem_cons, List.not_mem_nil, or_false] at hc
      subst hc
      rw [UInt8.toNat_ofNat']; omega
    · rcases List.mem_append.1 hc with hc | hc
      · exact ih _ (by omega) c hc
      · simp only [List.mem_cons, List.not_mem_nil, or_false] at hc
        subst hc
        rw [UInt8.toNat_ofNat']; omega
def decVal (l : List UInt8) : Nat := l.foldl (fun a c => a * 10 + (c.toNat - 48)) 0
theorem decVal_dec (u : Nat) : decVal (Lib.decDigits u) = u := by
  induction u using Nat.strongRecOn with
  | _ u ih =>
    rw [Lib.decDigits]
    split
    · simp only [decVal, List.foldl_cons, List.foldl_nil, UInt8.toNat_ofNat']; omega
    · have := ih (u / 10) (by omega)
      unfold decVal at this ⊢
      rw [List.foldl_append, this]
      simp only [List.foldl_cons, List.foldl_nil, UInt8.toNat_ofNat']; omega
theorem dec_inj {u v : Nat} (h : Lib.decDigits u = Lib.decDigits v) : u = v := by
  rw [← decVal_dec u, ← decVal_dec v, h]
def numC (c : UInt8) : Bool := c == 45 || decide (48 ≤ c.toNat ∧ c.toNat ≤ 57)
theorem itoa_num (n : Int) : ∀ c ∈ Lib.itoa n, numC c = true := by
  intro c hc
  unfold Lib.itoa at hc
  unfold numC
  split at hc
  · rcases List.mem_cons.1 hc with rfl | hc
    · rfl
    · simp [dec_digit _ c hc]
  · simp [dec_digit _ c hc]
theorem itoa_inj {n m : Int} (h : Lib.itoa n = Lib.itoa m) : n = m := by
  unfold Lib.itoa at h
  split at h <;> split at h
  · have := dec_inj (List.cons.inj h).2; omega
  · have := dec_digit m.toNat 45 (by rw [← h]; simp); exact absurd this.1 (by decide)
  · have := dec_digit n.toNat 45 (by rw [h]; simp); exact absurd this.1 (by decide)
  · have := dec_inj h; omega
theorem cut_class {f : UInt8 → Bool} : ∀ {p p' : List UInt8} {c c' : UInt8} {r r' : List UInt8}, (∀ x ∈ p, f x = true) → (∀ x ∈ p', f x = true) → f c = false → f c' = false → p ++ c :: r = p' ++ c' :: r' → p = p' ∧ c :: r = c' :: r'
  | [], [], _, _, _, _, _, _, _, _, h => ⟨rfl, h⟩
  | [], y :: p', c, c', r, r', _, h2, h3, _, h => by
    obtain ⟨rfl, _⟩ := List.cons.inj h
    rw [h2 c (by simp)] at h3; cases h3
  | x :: p, [], c, c', r, r', h1, _, _, h4, h => by
    obtain ⟨rfl, _⟩ := List.cons.inj h
    rw [h1 x (by simp)] at h4; cases h4
  | x :: p, y :: p', c, c', r, r', h1, h2, h3, h4, h => by
    obtain ⟨g0, g⟩ := List.cons.inj h
    obtain ⟨e0, e⟩ := cut_class (fun z hz => h1 z (List.mem_cons_of_mem _ hz)) (fun z hz => h2 z (List.mem_cons_of_mem _ hz)) h3 h4 g
    exact ⟨by rw [g0, e0], e⟩
/-- a fault's line, as bytes -/
theorem faultB_list (x : S40) : (faultB x).data.toList = [101, 114, 114, 111, 114, 32] ++ (Lib.itoa x.f0 ++ 32 :: ([97, 116, 32] ++ (Lib.itoa x.f1 ++ 44 :: ([32, 109, 111, 100, 117, 108, 101, 32] ++ (Lib.itoa x.f2 ++ 44 :: ([32, 105, 116, 101, 109, 32] ++ (Lib.itoa x.f3 ++ 58 :: (32 :: ((wordQ x.f0).data.toList ++ [10]))))))))) := by
  unfold faultB faultBQ errB atB modB itemB numB
  simp [ByteArray.data_append]
theorem faultB_inj {x y : S40} (h : (faultB x).data.toList = (faultB y).data.toList) : x = y := by
  rw [faultB_list, faultB_list] at h
  have h := List.append_cancel_left h
  obtain ⟨e0, h⟩ := cut_class (itoa_num x.f0) (itoa_num y.f0) (by decide) (by decide) h
  have h := List.append_cancel_left (List.cons.inj h).2
  obtain ⟨e1, h⟩ := cut_class (itoa_num x.f1) (itoa_num y.f1) (by decide) (by decide) h
  have h := List.append_cancel_left (List.cons.inj h).2
  obtain ⟨e2, h⟩ := cut_class (itoa_num x.f2) (itoa_num y.f2) (by decide) (by decide) h
  have h := List.append_cancel_left (List.cons.inj h).2
  obtain ⟨e3, h⟩ := cut_class (itoa_num x.f3) (itoa_num y.f3) (by decide) (by decide) h
  have g0 := itoa_inj e0
  have g1 := itoa_inj e1
  have g2 := itoa_inj e2
  have g3 := itoa_inj e3
  cases x; cases y
  simp only at g0 g1 g2 g3
  rw [g0, g1, g2, g3]
theorem wordOf_line (e : Int) : (10 : UInt8) ∉ (wordOf e).data.toList := by
  have h : ∀ p ∈ (match wordsD with | .map es => es | _ => []), ∃ l : List UInt8, p.2 = .lit (.string l) ∧ (10 : UInt8) ∉ l := by
    unfold wordsD Rows.laid_proofmark_report_words
    intro p hp
    simp only [List.mem_cons, List.not_mem_nil, or_false] at hp
    rcases hp with rfl | rfl | rfl | rfl | rfl | rfl | rfl | rfl | rfl | rfl | rfl | rfl | rfl | rfl | rfl | rfl | rfl | rfl | rfl | rfl <;> exact ⟨_, rfl, by decide⟩
  have hm : ∃ es, wordsD = .map es := ⟨_, rfl⟩
  obtain ⟨es, hes⟩ := hm
  rw [hes] at h
  unfold wordOf
  rw [hes]
  unfold DataW.atKey
  cases hf : es.find? (fun p => p.1.sameKey (.int .i64 e)) with
  | none => simp only [hf]; decide
  | some p =>
    obtain ⟨l, h1, h2⟩ := h p (List.mem_of_find?_eq_some hf)
    simp only [hf, h1]
    simpa using h2
theorem wordQ_line (e : Int) : (10 : UInt8) ∉ (wordQ e).data.toList := by
  unfold wordQ; split
  · decide
  · exact wordOf_line e
theorem itoa_line (n : Int) : (10 : UInt8) ∉ Lib.itoa n := fun h => absurd (itoa_num n 10 h) (by decide)
theorem faultB_count (x : S40) : (faultB x).data.toList.count 10 = 1 := by
  rw [faultB_list]
  have a0 := List.count_eq_zero.2 (itoa_line x.f0)
  have a1 := List.count_eq_zero.2 (itoa_line x.f1)
  have a2 := List.count_eq_zero.2 (itoa_line x.f2)
  have a3 := List.count_eq_zero.2 (itoa_line x.f3)
  have a4 := List.count_eq_zero.2 (wordQ_line x.f0)
  simp [List.count_cons, List.count_append, a0, a1, a2, a3, a4]
theorem faultsB_count : ∀ l : List S40, (faultsB l).count 10 = l.length
  | [] => rfl
  | x :: l => by
    have := faultsB_count l
    unfold faultsB at this ⊢
    rw [List.map_cons, List.flatten_cons, List.count_append, faultB_count, this, List.length_cons]; omega
theorem faultsB_append (l m : List S40) : faultsB (l ++ m) = faultsB l ++ faultsB m := by unfold faultsB; simp
end Go.Proofs.YtmfekngjhiofaaaDoor.Q
