/-
  Plain: a number's digits, and a fault's line: one line feed, at its end; unlike faults have unlike lines.
-/
import Derived.Test.YtmfekngjhiofaaaGreatDoorHFaults
import Derived.Test.YtmfekngjhiofaaaGreatDoorPNum
set_option linter.unusedVariables false
set_option linter.unusedSimpArgs false
namespace Go.Proofs.YtmfekngjhiofaaaGreatDoor.Q
open Go.RowKit Go.Proofs.YtmfekngjhiofaaaGreatDoorW.PrintWords Go.Proofs.YtmfekngjhiofaaaGreatDoorW.PrintLast Go.Proofs.YtmfekngjhiofaaaGreatDoorW.PrintMore

/-- a fault's line, as bytes -/
theorem faultB_list (x : S101) : (faultB x).data.toList = [101, 114, 114, 111, 114, 32] ++ (Lib.itoa x.f0 ++ 32 :: ([97, 116, 32] ++ (Lib.itoa x.f1 ++ 44 :: ([32, 109, 111, 100, 117, 108, 101, 32] ++ (Lib.itoa x.f2 ++ 44 :: ([32, 105, 116, 101, 109, 32] ++ (Lib.itoa x.f3 ++ 58 :: (32 :: ((wordQ x.f0).data.toList ++ [10]))))))))) := by
  unfold faultB faultBQ errB atB modB itemB numB
  simp [ByteArray.data_append]
theorem faultB_inj {x y : S101} (h : (faultB x).data.toList = (faultB y).data.toList) : x = y := by
  rw [faultB_list, faultB_list] at h
  have h := List.append_cancel_left h
  obtain ⟨e0, h⟩ := cut_class (itoa_num x.f0) (itoa_num y.f0) (by decide) (by decide) h
  have h := List.append_cancel_left (List.cons.inj h).2
  obtain ⟨e1, h⟩ := cut_class (itoa_num x.f1) (itoa_num y.f1) (by decide) (by decide) h
  have h := List.append_cancel_left (List.cons.inj h).2
  obtain ⟨e2, h⟩ := cut_class (itoa_num x.f2) (itoa_num y.f2) (by decide) (by decide) h
  have h := List.append_cancel_left (List.cons.inj h).2
  obtain ⟨e3, h⟩ := cut_class (itoa_num x.f3) (itoa_num y.f3) (by decide) (by decide) h
  have g0 := itoa_inj e0
  have g1 := itoa_inj e1
  have g2 := itoa_inj e2
  have g3 := itoa_inj e3
  cases x; cases y
  simp only at g0 g1 g2 g3
  rw [g0, g1, g2, g3]
theorem wordOf_line (e : Int) : (10 : UInt8) ∉ (wordOf e).data.toList := by
  have h : ∀ p ∈ (match wordsD with | .map es => es | _ => []), ∃ l : List UInt8, p.2 = .lit (.string l) ∧ (10 : UInt8) ∉ l := by
    unfold wordsD Rows.laid_proofmark_report_words
    intro p hp
    simp only [List.mem_cons, List.not_mem_nil, or_false] at hp
    rcases hp with rfl | rfl | rfl | rfl | rfl | rfl | rfl | rfl | rfl | rfl | rfl | rfl | rfl | rfl | rfl | rfl | rfl | rfl | rfl | rfl <;> exact ⟨_, rfl, by decide⟩
  have hm : ∃ es, wordsD = .map es := ⟨_, rfl⟩
  obtain ⟨es, hes⟩ := hm
  rw [hes] at h
  unfold wordOf
  rw [hes]
  unfold DataW.atKey
  cases hf : es.find? (fun p => p.1.sameKey (.int .i64 e)) with
  | none => simp only [hf]; decide
  | some p =>
    obtain ⟨l, h1, h2⟩ := h p (List.mem_of_find?_eq_some hf)
    simp only [hf, h1]
    simpa using h2
theorem wordQ_line (e : Int) : (10 : UInt8) ∉ (wordQ e).data.toList := by
  unfold wordQ; split
  · decide
  · exact wordOf_line e
theorem faultB_count (x : S101) : (faultB x).data.toList.count 10 = 1 := by
  rw [faultB_list]
  have a0 := List.count_eq_zero.2 (itoa_line x.f0)
  have a1 := List.count_eq_zero.2 (itoa_line x.f1)
  have a2 := List.count_eq_zero.2 (itoa_line x.f2)
  have a3 := List.count_eq_zero.2 (itoa_line x.f3)
  have a4 := List.count_eq_zero.2 (wordQ_line x.f0)
  simp [List.count_cons, List.count_append, a0, a1, a2, a3, a4]
theorem faultsB_count : ∀ l : List S101, (faultsB l).count 10 = l.length
  | [] => rfl
  | x :: l => by
    have := faultsB_count l
    unfold faultsB at this ⊢
    rw [List.map_cons, List.flatten_cons, List.count_append, faultB_count, this, List.length_cons]; omega
theorem faultsB_append (l m : List S101) : faultsB (l ++ m) = faultsB l ++ faultsB m := by unfold faultsB; simp
end Go.Proofs.YtmfekngjhiofaaaGreatDoor.Q
