/-
  Plain: the pieces of a text, joined by what cuts it, are the text.
-/
import Derived.Test.YtmfekngjhiofaaaGreatDoorHStrs
import Derived.Lib.IndexMore
import Derived.Lib.CountLaws
import Derived.Lib.Split
set_option linter.unusedVariables false
set_option linter.unusedSimpArgs false
namespace Go.Proofs.YtmfekngjhiofaaaGreatDoor.Q
open Go.RowKit Go.Proofs.YtmfekngjhiofaaaGreatDoorW.PrintWords Go.Proofs.YtmfekngjhiofaaaGreatDoorW.PrintLast Go.Proofs.YtmfekngjhiofaaaGreatDoorW.PrintMore
theorem join_two (x y : List UInt8) (ys : List (List UInt8)) (s : List UInt8) : Lib.join (x :: y :: ys) s = x ++ (s ++ Lib.join (y :: ys) s) := by
  rw [Lib.join_cons, Lib.join_cons]; simp [Lib.joinTail]
theorem join_one (x s : List UInt8) : Lib.join [x] s = x := by rw [Lib.join_cons]; simp [Lib.joinTail]
theorem splitK_ne (sep : List UInt8) (k : Nat) (s : List UInt8) : Lib.splitK sep 0 k s ≠ [] := by
  cases k with
  | zero => simp [Lib.splitK]
  | succ k => unfold Lib.splitK; split <;> simp
theorem join_split (sep : List UInt8) (hs : sep ≠ []) : ∀ (n : Nat) (s : List UInt8), s.length ≤ n → Lib.join (Lib.splitK sep 0 (Lib.count s sep) s) sep = s := by
  intro n
  induction n with
  | zero =>
    intro s h
    obtain rfl : s = [] := List.eq_nil_of_length_eq_zero (by omega)
    have hl : 0 < sep.length := List.length_pos_iff.2 hs
    have : Lib.index [] sep = -1 := Lib.index_past hs (i := 0) (fun j hj => absurd hj (by omega)) (by simpa using hl)
    rw [Lib.count_miss this]
    unfold Lib.splitK
    exact join_one [] sep
  | succ n ih =>
    intro s h
    have hl : 0 < sep.length := List.length_pos_iff.2 hs
    rcases Lib.index_spec s sep with ⟨h1, _⟩ | ⟨i, h1, h2, h3, _⟩
    · rw [Lib.count_miss h1]
      unfold Lib.splitK
      exact join_one s sep
    · rw [Lib.count_hit hs h1, Nat.add_comm 1]
      have hroom : i + sep.length ≤ s.length := by
        rcases Lib.occAt_room h3 with h | h
        · exact h
        · exact absurd h hs
      have ht : (s.drop i).take sep.length = sep := by
        have := Lib.occAt_iff_take s sep i hroom
        rw [h3] at this
        exact beq_iff_eq.1 this.symm
      have hr := ih (s.drop (i + sep.length)) (by rw [List.length_drop]; omega)
      have hne : (Lib.index s sep == -1) = false := by rw [h1, beq_eq_false_iff_ne]; omega
      have e : Lib.splitK sep 0 (Lib.count (s.drop (i + sep.length)) sep + 1) s = s.take i :: Lib.splitK sep 0 (Lib.count (s.drop (i + sep.length)) sep) (s.drop (i + sep.length)) := by
        conv => lhs; unfold Lib.splitK
        rw [hne, h1]
        simp only [Bool.false_eq_true, if_false, Int.toNat_natCast, Nat.add_zero]
      rw [e]
      obtain ⟨y, ys, hy⟩ := List.exists_cons_of_ne_nil (splitK_ne sep (Lib.count (s.drop (i + sep.length)) sep) (s.drop (i + sep.length)))
      rw [hy] at hr ⊢
      rw [join_two, hr]
      conv => rhs; rw [← List.take_append_drop i s, ← List.take_append_drop sep.length (s.drop i), ht, List.drop_drop]
theorem joinB_split (s sep : ByteArray) (h : sep.data.toList ≠ []) : joinB (Lib.splitB sep 0 (Lib.countB s sep) s) sep = s.data.toList := by
  unfold joinB
  rw [Lib.splitB_data]
  exact join_split _ h s.data.toList.length s.data.toList (Nat.le_refl _)
end Go.Proofs.YtmfekngjhiofaaaGreatDoor.Q
