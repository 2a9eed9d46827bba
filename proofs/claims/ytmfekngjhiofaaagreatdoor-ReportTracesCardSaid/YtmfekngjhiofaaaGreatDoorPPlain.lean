/-
  Plain: the document's Plain, byte by byte.
-/
import Derived.Test.YtmfekngjhiofaaaGreatDoorQx12
import Derived.Test.YtmfekngjhiofaaaGreatDoorPCut
set_option linter.unusedVariables false
set_option linter.unusedSimpArgs false
namespace Go.Proofs.YtmfekngjhiofaaaGreatDoor.Q
open Go.RowKit Go.Proofs.YtmfekngjhiofaaaGreatDoorW.PrintWords Go.Proofs.YtmfekngjhiofaaaGreatDoorW.PrintLast Go.Proofs.YtmfekngjhiofaaaGreatDoorW.PrintMore
def plainB (s : ByteArray) : Bool := s.data.toList.all fun c => !oddC c
theorem bt_list (s : ByteArray) (i : Nat) (hi : i < s.data.toList.length) : bt s (i : Int) = ((s.data.toList[i]).toNat : Int) := by
  have hq : (i : Int).toNat < s.size := by simpa using hi
  rw [← bt_at s (i : Int) hq]
  simp [ByteArray.getElem_eq_getElem_data]
theorem byte_is (c : UInt8) (n : Nat) (hn : n < 256) : ((c.toNat : Int) = (n : Int)) ↔ c = UInt8.ofNat n := by
  constructor
  · intro h
    apply UInt8.toNat_inj.1
    rw [UInt8.toNat_ofNat']; omega
  · intro h
    subst h
    rw [UInt8.toNat_ofNat']; omega
theorem plain_l0 (s : ByteArray) (hs : s.size < 1000000) (d : Nat) : ∀ (k i : Nat), s.size - i = d → i ≤ s.size → d < k → proofmarkref27_Plain.l0 k s (i : Int) = some ((s.data.toList.drop i).all fun c => !oddC c) := by
  have hsl : s.data.toList.length = s.size := by simp
  induction d with
  | zero =>
    intro k i h1 h2 h3
    obtain ⟨k, rfl⟩ : ∃ m, k = m + 1 := ⟨k - 1, by omega⟩
    simp only [proofmarkref27_Plain.l0]
    rw [if_neg (by omega), List.drop_eq_nil_of_le (by omega)]; rfl
  | succ d ih =>
    intro k i h1 h2 h3
    obtain ⟨k, rfl⟩ : ∃ m, k = m + 1 := ⟨k - 1, by omega⟩
    have hi : i < s.data.toList.length := by omega
    simp only [proofmarkref27_Plain.l0]
    rw [if_pos (by omega), if_pos (by omega), bt_list s i hi, wrap_one i (by omega), ih k (i + 1) (by omega) (by omega) (by omega), List.drop_eq_getElem_cons hi, List.all_cons]
    generalize s.data.toList[i] = c
    have e0 : ((c.toNat : Int) = 32) ↔ c = 32 := byte_is c 32 (by omega)
    have e1 : ((c.toNat : Int) = 10) ↔ c = 10 := byte_is c 10 (by omega)
    have e2 : ((c.toNat : Int) = 61) ↔ c = 61 := byte_is c 61 (by omega)
    have e3 : ((c.toNat : Int) = 124) ↔ c = 124 := byte_is c 124 (by omega)
    have e4 : ((c.toNat : Int) = 126) ↔ c = 126 := byte_is c 126 (by omega)
    have e5 : ((c.toNat : Int) = 58) ↔ c = 58 := byte_is c 58 (by omega)
    by_cases q0 : c = 32
    · rw [if_pos (e0.2 q0), q0]; rfl
    rw [if_neg (fun h => q0 (e0.1 h))]
    by_cases q1 : c = 10
    · rw [if_pos (e1.2 q1), q1]; rfl
    rw [if_neg (fun h => q1 (e1.1 h))]
    by_cases q2 : c = 61
    · rw [if_pos (e2.2 q2), q2]; rfl
    rw [if_neg (fun h => q2 (e2.1 h))]
    by_cases q3 : c = 124
    · rw [if_pos (e3.2 q3), q3]; rfl
    rw [if_neg (fun h => q3 (e3.1 h))]
    by_cases q4 : c = 126
    · rw [if_pos (e4.2 q4), q4]; rfl
    rw [if_neg (fun h => q4 (e4.1 h))]
    by_cases q5 : c = 58
    · rw [if_pos (e5.2 q5), q5]; rfl
    rw [if_neg (fun h => q5 (e5.1 h))]
    have : oddC c = false := by unfold oddC; simp [q0, q1, q2, q3, q4, q5]
    rw [this]; rfl
theorem plain_f (s : ByteArray) (hs : s.size < 1000000) (k : Nat) (hk : s.size < k) : proofmarkref27_Plain.f k s = some (plainB s) := by
  unfold proofmarkref27_Plain.f plainB
  have := plain_l0 s hs s.size k 0 (by omega) (by omega) hk
  simpa using this
end Go.Proofs.YtmfekngjhiofaaaGreatDoor.Q
