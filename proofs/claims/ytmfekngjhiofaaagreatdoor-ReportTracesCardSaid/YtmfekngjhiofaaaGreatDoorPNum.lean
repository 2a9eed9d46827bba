/-
  Plain: a number's digits.
-/
import Derived.Test.YtmfekngjhiofaaaGreatDoorHBase
set_option linter.unusedVariables false
set_option linter.unusedSimpArgs false
namespace Go.Proofs.YtmfekngjhiofaaaGreatDoor.Q
open Go.RowKit Go.Proofs.YtmfekngjhiofaaaGreatDoorW.PrintWords Go.Proofs.YtmfekngjhiofaaaGreatDoorW.PrintLast Go.Proofs.YtmfekngjhiofaaaGreatDoorW.PrintMore
theorem dec_digit (u : Nat) : ∀ c ∈ Lib.decDigits u, 48 ≤ c.toNat ∧ c.toNat ≤ 57 := by
  induction u using Nat.strongRecOn with
  | _ u ih =>
    intro c hc
    rw [Lib.decDigits] at hc
    split at hc
    · simp only [List.mem_cons, List.not_mem_nil, or_false] at hc
      subst hc
      rw [UInt8.toNat_ofNat']; omega
    · rcases List.mem_append.1 hc with hc | hc
      · exact ih _ (by omega) c hc
      · simp only [List.mem_cons, List.not_mem_nil, or_false] at hc
        subst hc
        rw [UInt8.toNat_ofNat']; omega
def decVal (l : List UInt8) : Nat := l.foldl (fun a c => a * 10 + (c.toNat - 48)) 0
theorem decVal_dec (u : Nat) : decVal (Lib.decDigits u) = u := by
  induction u using Nat.strongRecOn with
  | _ u ih =>
    rw [Lib.decDigits]
    split
    · simp only [decVal, List.foldl_cons, List.foldl_nil, UInt8.toNat_ofNat']; omega
    · have := ih (u / 10) (by omega)
      unfold decVal at this ⊢
      rw [List.foldl_append, this]
      simp only [List.foldl_cons, List.foldl_nil, UInt8.toNat_ofNat']; omega
theorem dec_inj {u v : Nat} (h : Lib.decDigits u = Lib.decDigits v) : u = v := by
  rw [← decVal_dec u, ← decVal_dec v, h]
def numC (c : UInt8) : Bool := c == 45 || decide (48 ≤ c.toNat ∧ c.toNat ≤ 57)
theorem itoa_num (n : Int) : ∀ c ∈ Lib.itoa n, numC c = true := by
  intro c hc
  unfold Lib.itoa at hc
  unfold numC
  split at hc
  · rcases List.mem_cons.1 hc with rfl | hc
    · rfl
    · simp [dec_digit _ c hc]
  · simp [dec_digit _ c hc]
theorem itoa_inj {n m : Int} (h : Lib.itoa n = Lib.itoa m) : n = m := by
  unfold Lib.itoa at h
  split at h <;> split at h
  · have := dec_inj (List.cons.inj h).2; omega
  · have := dec_digit m.toNat 45 (by rw [← h]; simp); exact absurd this.1 (by decide)
  · have := dec_digit n.toNat 45 (by rw [h]; simp); exact absurd this.1 (by decide)
  · have := dec_inj h; omega
theorem cut_class {f : UInt8 → Bool} : ∀ {p p' : List UInt8} {c c' : UInt8} {r r' : List UInt8}, (∀ x ∈ p, f x = true) → (∀ x ∈ p', f x = true) → f c = false → f c' = false → p ++ c :: r = p' ++ c' :: r' → p = p' ∧ c :: r = c' :: r'
  | [], [], _, _, _, _, _, _, _, _, h => ⟨rfl, h⟩
  | [], y :: p', c, c', r, r', _, h2, h3, _, h => by
    obtain ⟨rfl, _⟩ := List.cons.inj h
    rw [h2 c (by simp)] at h3; cases h3
  | x :: p, [], c, c', r, r', h1, _, _, h4, h => by
    obtain ⟨rfl, _⟩ := List.cons.inj h
    rw [h1 x (by simp)] at h4; cases h4
  | x :: p, y :: p', c, c', r, r', h1, h2, h3, h4, h => by
    obtain ⟨g0, g⟩ := List.cons.inj h
    obtain ⟨e0, e⟩ := cut_class (fun z hz => h1 z (List.mem_cons_of_mem _ hz)) (fun z hz => h2 z (List.mem_cons_of_mem _ hz)) h3 h4 g
    exact ⟨by rw [g0, e0], e⟩
theorem itoa_line (n : Int) : (10 : UInt8) ∉ Lib.itoa n := fun h => absurd (itoa_num n 10 h) (by decide)
end Go.Proofs.YtmfekngjhiofaaaGreatDoor.Q
