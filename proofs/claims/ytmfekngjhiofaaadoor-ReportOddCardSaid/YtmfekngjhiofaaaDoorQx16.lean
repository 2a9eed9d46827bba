-- Written by the session's own program (wip/tools/ownprint.py) for this claim: functions of the translation as plain Lean functions, and their contracts.
import Derived.Test.YtmfekngjhiofaaaDoorQx0
namespace Go.Proofs.YtmfekngjhiofaaaDoor.Q
open Go.RowKit Go.Proofs.YtmfekngjhiofaaaDoorW.PrintWords Go.Proofs.YtmfekngjhiofaaaDoorW.PrintLast Go.Proofs.YtmfekngjhiofaaaDoorW.PrintMore
attribute [local go_sem] max2_int min2_int max_two min_two max_three min_three max_four min_four   -- for this text's walks alone
set_option linter.unusedVariables false
set_option linter.unusedSimpArgs false

-- BY HAND: function 41 (proofmarkref30_what)

/-! ### proofmarkref27_Plain: function 47 -/
def proofmarkref27_Plain.l0 : Nat → ByteArray → Int → Option (Bool)
  | 0, _, _ => none
  | k + 1, x0, x3 => if x3 < (x0.size : Int) then (if 0 ≤ x3 then (if (bt x0 x3) = 32 then (some false) else (if (bt x0 x3) = 10 then (some false) else (if (bt x0 x3) = 61 then (some false) else (if (bt x0 x3) = 124 then (some false) else (if (bt x0 x3) = 126 then (some false) else (if (bt x0 x3) = 58 then (some false) else (proofmarkref27_Plain.l0 k x0 (wrap64 (x3 + 1))))))))) else (none)) else (some true)
def proofmarkref27_Plain.f (k : Nat) (a0 : ByteArray) : Option (Bool) := proofmarkref27_Plain.l0 k a0 0
theorem proofmarkref27_Plain.mono_l : ∀ k, (∀ y0 y1, LeO (proofmarkref27_Plain.l0 k y0 y1) (proofmarkref27_Plain.l0 (k + 1) y0 y1))
  | 0 => fun _ _ r h => by simp [proofmarkref27_Plain.l0] at h
  | k + 1 => by
    have ih0 := proofmarkref27_Plain.mono_l k
    · intro y0 y1
      unfold proofmarkref27_Plain.l0
      repeat' first
      | (with_reducible exact ih0 _ _)
      | (with_reducible exact LeO.refl _)
      | (with_reducible exact LeO.none _)
      | (with_reducible refine LeO.ite ?_ ?_)
      | (with_reducible refine LeO.bind ?_ (fun _ => ?_))
      | exact ih0 _ _
      | exact LeO.none _
      | refine LeO.ite ?_ ?_
      | refine LeO.bind ?_ (fun _ => ?_)
theorem proofmarkref27_Plain.mono : ∀ a0 k, LeO (proofmarkref27_Plain.f k a0) (proofmarkref27_Plain.f (k + 1) a0) := by
  intro a0 k
  have ih0 := proofmarkref27_Plain.mono_l k
  unfold proofmarkref27_Plain.f
  repeat' first
      | (with_reducible exact ih0 _ _)
      | (with_reducible exact LeO.refl _)
      | (with_reducible exact LeO.none _)
      | (with_reducible refine LeO.ite ?_ ?_)
      | (with_reducible refine LeO.bind ?_ (fun _ => ?_))
      | exact ih0 _ _
      | exact LeO.none _
      | refine LeO.ite ?_ ?_
      | refine LeO.bind ?_ (fun _ => ?_)
set_option maxHeartbeats 8000000 in
set_option maxRecDepth 100000 in
theorem proofmarkref27_Plain.calls (k : Nat) (a0 : ByteArray) (r : Bool) (w : World) (h : proofmarkref27_Plain.f k a0 = some r) :
    Calls Tryd.prog 47 #[.string a0] w fun e w' => e = .returned (.bool r) ∧ Drawn0 w w' := by
  have H : (proofmarkref27_Plain.l0 k a0 0) = some r := h
  clear h
  have H' := Aside0.mk H
  clear H
  go_enter Tryd.func47, Tryd.ntmps47
  go_wp2
  try simp only [Act.put, List.setIfInBounds_toArray, List.set_cons_succ, List.set_cons_zero]
  go_loopg [3] k (fun kq v3 w' => ∃ (x3_1 : Int), v3 = .int .i64 x3_1 ∧ Aside0 (proofmarkref27_Plain.l0 kq a0 x3_1 = some r) ∧ Aside0 (kq ≤ k) ∧ Drawn0 w w')
  case atStart => exact ⟨(0), rfl, H', ⟨Nat.le_refl _⟩, by repeat (first | exact Drawn0.refl _)⟩
  case round =>
    clear H'
    obtain ⟨x3_1, rfl, HA, HK1, ⟨m1, rfl⟩⟩ := hrel
    cases gk with
    | zero => exact absurd HA.out (by simp [proofmarkref27_Plain.l0])
    | succ k1 =>
      have H := HA.out
      clear HA
      simp only [proofmarkref27_Plain.l0] at H
      by_cases c2 : x3_1 < (a0.size : Int)
      · rw [if_pos c2] at H
        have c2b0 : decide (x3_1 < (a0.size : Int)) = true := decide_eq_true c2
        clear c2
        by_cases c3 : 0 ≤ x3_1
        · rw [if_pos c3] at H
          have c3b0 : decide (0 ≤ x3_1) = true := decide_eq_true c3
          clear c3
          by_cases c5 : (bt a0 x3_1) = 32
          · rw [if_pos c5] at H
            have c5b0 : ((bt a0 x3_1) == 32) = true := beq_iff_eq.mpr c5
            have c5b1 : ((bt a0 x3_1) != 32) = false := bne_eq_false_iff_eq.mpr c5
            clear c5
            obtain rfl := Option.some.inj H
            have p4 : 0 ≤ (x3_1 : Int) := of_decide_eq_true (by first | (with_reducible assumption))
            have q4 : x3_1 < (a0.size : Int) := of_decide_eq_true (by first | (with_reducible assumption))
            have hx4 := bt_at a0 x3_1
            replace p4 := eq_true p4
            replace q4 := eq_true q4
            go_wp2
            go_ret
            exact ⟨by first | rfl, by repeat (first | exact Drawn0.refl _ | apply Drawn0.step)⟩
          · rw [if_neg c5] at H
            have c5b0 : ((bt a0 x3_1) == 32) = false := beq_eq_false_iff_ne.mpr c5
            have c5b1 : ((bt a0 x3_1) != 32) = true := bne_iff_ne.mpr c5
            by_cases c6 : (bt a0 x3_1) = 10
            · rw [if_pos c6] at H
              have c6b0 : ((bt a0 x3_1) == 10) = true := beq_iff_eq.mpr c6
              have c6b1 : ((bt a0 x3_1) != 10) = false := bne_eq_false_iff_eq.mpr c6
              clear c6
              obtain rfl := Option.some.inj H
              have p4 : 0 ≤ (x3_1 : Int) := of_decide_eq_true (by first | (with_reducible assumption))
              have q4 : x3_1 < (a0.size : Int) := of_decide_eq_true (by first | (with_reducible assumption))
              have hx4 := bt_at a0 x3_1
              replace p4 := eq_true p4
              replace q4 := eq_true q4
              go_wp2
              go_ret
              exact ⟨by first | rfl, by repeat (first | exact Drawn0.refl _ | apply Drawn0.step)⟩
            · rw [if_neg c6] at H
              have c6b0 : ((bt a0 x3_1) == 10) = false := beq_eq_false_iff_ne.mpr c6
              have c6b1 : ((bt a0 x3_1) != 10) = true := bne_iff_ne.mpr c6
              by_cases c7 : (bt a0 x3_1) = 61
              · rw [if_pos c7] at H
                have c7b0 : ((bt a0 x3_1) == 61) = true := beq_iff_eq.mpr c7
                have c7b1 : ((bt a0 x3_1) != 61) = false := bne_eq_false_iff_eq.mpr c7
                clear c7
                obtain rfl := Option.some.inj H
                have p4 : 0 ≤ (x3_1 : Int) := of_decide_eq_true (by first | (with_reducible assumption))
                have q4 : x3_1 < (a0.size : Int) := of_decide_eq_true (by first | (with_reducible assumption))
                have hx4 := bt_at a0 x3_1
                replace p4 := eq_true p4
                replace q4 := eq_true q4
                go_wp2
                go_ret
                exact ⟨by first | rfl, by repeat (first | exact Drawn0.refl _ | apply Drawn0.step)⟩
              · rw [if_neg c7] at H
                have c7b0 : ((bt a0 x3_1) == 61) = false := beq_eq_false_iff_ne.mpr c7
                have c7b1 : ((bt a0 x3_1) != 61) = true := bne_iff_ne.mpr c7
                by_cases c8 : (bt a0 x3_1) = 124
                · rw [if_pos c8] at H
                  have c8b0 : ((bt a0 x3_1) == 124) = true := beq_iff_eq.mpr c8
                  have c8b1 : ((bt a0 x3_1) != 124) = false := bne_eq_false_iff_eq.mpr c8
                  clear c8
                  obtain rfl := Option.some.inj H
                  have p4 : 0 ≤ (x3_1 : Int) := of_decide_eq_true (by first | (with_reducible assumption))
                  have q4 : x3_1 < (a0.size : Int) := of_decide_eq_true (by first | (with_reducible assumption))
                  have hx4 := bt_at a0 x3_1
                  replace p4 := eq_true p4
                  replace q4 := eq_true q4
                  go_wp2
                  go_ret
                  exact ⟨by first | rfl, by repeat (first | exact Drawn0.refl _ | apply Drawn0.step)⟩
                · rw [if_neg c8] at H
                  have c8b0 : ((bt a0 x3_1) == 124) = false := beq_eq_false_iff_ne.mpr c8
                  have c8b1 : ((bt a0 x3_1) != 124) = true := bne_iff_ne.mpr c8
                  by_cases c9 : (bt a0 x3_1) = 126
                  · rw [if_pos c9] at H
                    have c9b0 : ((bt a0 x3_1) == 126) = true := beq_iff_eq.mpr c9
                    have c9b1 : ((bt a0 x3_1) != 126) = false := bne_eq_false_iff_eq.mpr c9
                    clear c9
                    obtain rfl := Option.some.inj H
                    have p4 : 0 ≤ (x3_1 : Int) := of_decide_eq_true (by first | (with_reducible assumption))
                    have q4 : x3_1 < (a0.size : Int) := of_decide_eq_true (by first | (with_reducible assumption))
                    have hx4 := bt_at a0 x3_1
                    replace p4 := eq_true p4
                    replace q4 := eq_true q4
                    go_wp2
                    go_ret
                    exact ⟨by first | rfl, by repeat (first | exact Drawn0.refl _ | apply Drawn0.step)⟩
                  · rw [if_neg c9] at H
                    have c9b0 : ((bt a0 x3_1) == 126) = false := beq_eq_false_iff_ne.mpr c9
                    have c9b1 : ((bt a0 x3_1) != 126) = true := bne_iff_ne.mpr c9
                    by_cases c10 : (bt a0 x3_1) = 58
                    · rw [if_pos c10] at H
                      have c10b0 : ((bt a0 x3_1) == 58) = true := beq_iff_eq.mpr c10
                      have c10b1 : ((bt a0 x3_1) != 58) = false := bne_eq_false_iff_eq.mpr c10
                      clear c10
                      obtain rfl := Option.some.inj H
                      have p4 : 0 ≤ (x3_1 : Int) := of_decide_eq_true (by first | (with_reducible assumption))
                      have q4 : x3_1 < (a0.size : Int) := of_decide_eq_true (by first | (with_reducible assumption))
                      have hx4 := bt_at a0 x3_1
                      replace p4 := eq_true p4
                      replace q4 := eq_true q4
                      go_wp2
                      go_ret
                      exact ⟨by first | rfl, by repeat (first | exact Drawn0.refl _ | apply Drawn0.step)⟩
                    · rw [if_neg c10] at H
                      have c10b0 : ((bt a0 x3_1) == 58) = false := beq_eq_false_iff_ne.mpr c10
                      have c10b1 : ((bt a0 x3_1) != 58) = true := bne_iff_ne.mpr c10
                      have H' := Aside0.mk H
                      clear H
                      have p4 : 0 ≤ (x3_1 : Int) := of_decide_eq_true (by first | (with_reducible assumption))
                      have q4 : x3_1 < (a0.size : Int) := of_decide_eq_true (by first | (with_reducible assumption))
                      have hx4 := bt_at a0 x3_1
                      replace p4 := eq_true p4
                      replace q4 := eq_true q4
                      go_wp2
                      go_roundg k1
                      case measure => have := HK1.out; omega
                      case rel => exact ⟨(wrap64 (x3_1 + 1)), rfl, H', ⟨by have := HK1.out; omega⟩, by repeat (first | exact Drawn0.refl _ | apply Drawn0.step)⟩
        · rw [if_neg c3] at H
          exact absurd H (by simp)
      · rw [if_neg c2] at H
        have c2b0 : decide (x3_1 < (a0.size : Int)) = false := decide_eq_false c2
        clear c2
        obtain rfl := Option.some.inj H
        go_wp2
        go_ret
        exact ⟨by first | rfl, by repeat (first | exact Drawn0.refl _ | apply Drawn0.step)⟩

/-! ### proofmarkref27_unlike: function 83 -/
mutual
def proofmarkref27_unlike.l0 : Nat → List ByteArray → Int → Option (Bool)
  | 0, _, _ => none
  | k + 1, x0, x3 => if x3 < (x0.length : Int) then (if 0 ≤ x3 then ((proofmarkref27_Plain.f k (rdOf ByteArray.empty x0 x3)).bind fun t209 => (if t209 = true then (proofmarkref27_unlike.l1 k x0 x3 0) else (some false))) else (none)) else (some true)
def proofmarkref27_unlike.l1 : Nat → List ByteArray → Int → Int → Option (Bool)
  | 0, _, _, _ => none
  | k + 1, x0, x3, x4 => if x4 < x3 then (if 0 ≤ x4 then (if x4 < (x0.length : Int) then (if 0 ≤ x3 then (if x3 < (x0.length : Int) then (if (rdOf ByteArray.empty x0 x4).toList = (rdOf ByteArray.empty x0 x3).toList then (some false) else (proofmarkref27_unlike.l1 k x0 x3 (wrap64 (x4 + 1)))) else (none)) else (none)) else (none)) else (none)) else (proofmarkref27_unlike.l0 k x0 (wrap64 (x3 + 1)))
end
def proofmarkref27_unlike.f (k : Nat) (l0 : List ByteArray) : Option (Bool) := proofmarkref27_unlike.l0 k l0 0
theorem proofmarkref27_unlike.mono_l : ∀ k, (∀ y0 y1, LeO (proofmarkref27_unlike.l0 k y0 y1) (proofmarkref27_unlike.l0 (k + 1) y0 y1)) ∧ (∀ y0 y1 y2, LeO (proofmarkref27_unlike.l1 k y0 y1 y2) (proofmarkref27_unlike.l1 (k + 1) y0 y1 y2))
  | 0 => ⟨fun _ _ r h => by simp [proofmarkref27_unlike.l0] at h, fun _ _ _ r h => by simp [proofmarkref27_unlike.l1] at h⟩
  | k + 1 => by
    obtain ⟨ih0, ih1⟩ := proofmarkref27_unlike.mono_l k
    refine ⟨?_, ?_⟩
    · intro y0 y1
      unfold proofmarkref27_unlike.l0
      repeat' first
      | (with_reducible exact ih0 _ _)
      | (with_reducible exact ih1 _ _ _)
      | (with_reducible exact proofmarkref27_Plain.mono _ _)
      | (with_reducible exact LeO.refl _)
      | (with_reducible exact LeO.none _)
      | (with_reducible refine LeO.ite ?_ ?_)
      | (with_reducible refine LeO.bind ?_ (fun _ => ?_))
      | exact ih0 _ _
      | exact ih1 _ _ _
      | exact proofmarkref27_Plain.mono _ _
      | exact LeO.none _
      | refine LeO.ite ?_ ?_
      | refine LeO.bind ?_ (fun _ => ?_)
    · intro y0 y1 y2
      unfold proofmarkref27_unlike.l1
      repeat' first
      | (with_reducible exact ih0 _ _)
      | (with_reducible exact ih1 _ _ _)
      | (with_reducible exact proofmarkref27_Plain.mono _ _)
      | (with_reducible exact LeO.refl _)
      | (with_reducible exact LeO.none _)
      | (with_reducible refine LeO.ite ?_ ?_)
      | (with_reducible refine LeO.bind ?_ (fun _ => ?_))
      | exact ih0 _ _
      | exact ih1 _ _ _
      | exact proofmarkref27_Plain.mono _ _
      | exact LeO.none _
      | refine LeO.ite ?_ ?_
      | refine LeO.bind ?_ (fun _ => ?_)
theorem proofmarkref27_unlike.mono : ∀ a0 k, LeO (proofmarkref27_unlike.f k a0) (proofmarkref27_unlike.f (k + 1) a0) := by
  intro a0 k
  obtain ⟨ih0, ih1⟩ := proofmarkref27_unlike.mono_l k
  unfold proofmarkref27_unlike.f
  repeat' first
      | (with_reducible exact ih0 _ _)
      | (with_reducible exact ih1 _ _ _)
      | (with_reducible exact proofmarkref27_Plain.mono _ _)
      | (with_reducible exact LeO.refl _)
      | (with_reducible exact LeO.none _)
      | (with_reducible refine LeO.ite ?_ ?_)
      | (with_reducible refine LeO.bind ?_ (fun _ => ?_))
      | exact ih0 _ _
      | exact ih1 _ _ _
      | exact proofmarkref27_Plain.mono _ _
      | exact LeO.none _
      | refine LeO.ite ?_ ?_
      | refine LeO.bind ?_ (fun _ => ?_)
set_option maxHeartbeats 8000000 in
set_option maxRecDepth 100000 in
theorem proofmarkref27_unlike.calls (k : Nat) (A0 : Option Addr) (c0 : Nat) (l0 : List ByteArray) (r : Bool) (w : World) (hr0 : Kd.C Kd.string w A0 l0.length l0) (hc0 : l0.length ≤ c0) (h : proofmarkref27_unlike.f k l0 = some r) :
    Calls Tryd.prog 83 #[.slice A0 l0.length c0] w fun e w' => e = .returned (.bool r) ∧ Drawn0 w w' := by
  have HR0 := Aside0.mk hr0
  have HC0 := Aside0.mk hc0
  clear hr0 hc0
  have H : (proofmarkref27_unlike.l0 k l0 0) = some r := h
  clear h
  have H' := Aside0.mk H
  clear H
  go_enter Tryd.func83, Tryd.ntmps83
  go_wp2
  repeat (go_quiet (fail); try go_wp2)
  try simp only [Act.put, List.setIfInBounds_toArray, List.set_cons_succ, List.set_cons_zero]
  go_loopg [3] k (fun kq v3 w' => ∃ (x3_1 : Int), v3 = .int .i64 x3_1 ∧ Aside0 (proofmarkref27_unlike.l0 kq l0 x3_1 = some r) ∧ Aside0 (kq ≤ k) ∧ Drawn0 w w')
  case atStart => exact ⟨(0), rfl, H', ⟨Nat.le_refl _⟩, by repeat (first | exact Drawn0.refl _)⟩
  case round =>
    clear H'
    obtain ⟨x3_1, rfl, HA, HK1, ⟨m1, rfl⟩⟩ := hrel
    cases gk with
    | zero => exact absurd HA.out (by simp [proofmarkref27_unlike.l0])
    | succ k1 =>
      have H := HA.out
      clear HA
      simp only [proofmarkref27_unlike.l0] at H
      by_cases c2 : x3_1 < (l0.length : Int)
      · rw [if_pos c2] at H
        have c2b0 : decide (x3_1 < (l0.length : Int)) = true := decide_eq_true c2
        clear c2
        by_cases c3 : 0 ≤ x3_1
        · rw [if_pos c3] at H
          have c3b0 : decide (0 ≤ x3_1) = true := decide_eq_true c3
          clear c3
          replace H := Option.bind_eq_some_iff.mp H
          obtain ⟨t209, A40, H⟩ := H
          replace H : (if t209 = true then (proofmarkref27_unlike.l1 k1 l0 x3_1 0) else (some false)) = some r := H
          have A4 := Aside0.mk A40
          clear A40
          by_cases c5 : t209 = true
          · subst c5
            have H1 : (proofmarkref27_unlike.l1 k1 l0 x3_1 0) = some r := by rw [if_pos rfl] at H; exact H
            clear H
            have H := H1
            clear H1
            have H' := Aside0.mk H
            clear H
            have p208 : 0 ≤ (x3_1 : Int) := of_decide_eq_true (by first | (with_reducible assumption))
            have q208 : x3_1 < (l0.length : Int) := of_decide_eq_true (by first | (with_reducible assumption))
            obtain ⟨ad208, e208, hx208_0⟩ := Kd.at_string HR0.out x3_1 p208 q208
            cases e208
            replace p208 := eq_true p208
            replace q208 := eq_true q208
            go_wp2_with (first | (go_at_call 47; (with_reducible refine (proofmarkref27_Plain.calls k1 (rdOf ByteArray.empty l0 x3_1) true _ A4.out).mono ?_); rintro e w' ⟨rfl, ⟨nd, rfl⟩⟩; (try first | fail)))
            repeat (go_quiet (first | fail); try go_wp2_with (first | fail))
            try simp only [Act.put, List.setIfInBounds_toArray, List.set_cons_succ, List.set_cons_zero]
            go_loopg [4] k1 (fun kq v4 w' => ∃ (x4_2 : Int), v4 = .int .i64 x4_2 ∧ Aside0 (proofmarkref27_unlike.l1 kq l0 x3_1 x4_2 = some r) ∧ Aside0 (kq ≤ k1) ∧ Drawn0 w w')
            case atStart => exact ⟨(0), rfl, H', ⟨Nat.le_refl _⟩, by repeat (first | exact Drawn0.refl _ | apply Drawn0.step)⟩
            case round =>
              clear H'
              try clear c2
              try clear c2b0
              try clear p2
              try clear q2
              try clear hx2
              try clear c3
              try clear c3b0
              try clear c5
              try clear hx208_0
              try clear p208
              try clear q208
              obtain ⟨x4_2, rfl, HA, HK2, ⟨m2, rfl⟩⟩ := hrel
              cases gk with
              | zero => exact absurd HA.out (by simp [proofmarkref27_unlike.l1])
              | succ k2 =>
                have H := HA.out
                clear HA
                simp only [proofmarkref27_unlike.l1] at H
                by_cases c6 : x4_2 < x3_1
                · rw [if_pos c6] at H
                  have c6b0 : decide (x4_2 < x3_1) = true := decide_eq_true c6
                  clear c6
                  by_cases c7 : 0 ≤ x4_2
                  · rw [if_pos c7] at H
                    have c7b0 : decide (0 ≤ x4_2) = true := decide_eq_true c7
                    clear c7
                    by_cases c8 : x4_2 < (l0.length : Int)
                    · rw [if_pos c8] at H
                      have c8b0 : decide (x4_2 < (l0.length : Int)) = true := decide_eq_true c8
                      clear c8
                      by_cases c9 : 0 ≤ x3_1
                      · rw [if_pos c9] at H
                        have c9b0 : decide (0 ≤ x3_1) = true := decide_eq_true c9
                        clear c9
                        by_cases c10 : x3_1 < (l0.length : Int)
                        · rw [if_pos c10] at H
                          have c10b0 : decide (x3_1 < (l0.length : Int)) = true := decide_eq_true c10
                          clear c10
                          by_cases c11 : (rdOf ByteArray.empty l0 x4_2).toList = (rdOf ByteArray.empty l0 x3_1).toList
                          · rw [if_pos c11] at H
                            have c11b0 : ((rdOf ByteArray.empty l0 x4_2).toList == (rdOf ByteArray.empty l0 x3_1).toList) = true := beq_iff_eq.mpr c11
                            have c11b1 : ((rdOf ByteArray.empty l0 x4_2).toList != (rdOf ByteArray.empty l0 x3_1).toList) = false := bne_eq_false_iff_eq.mpr c11
                            clear c11
                            obtain rfl := Option.some.inj H
                            have p210 : 0 ≤ (x4_2 : Int) := of_decide_eq_true (by first | (with_reducible assumption))
                            have q210 : x4_2 < (l0.length : Int) := of_decide_eq_true (by first | (with_reducible assumption))
                            obtain ⟨ad210, e210, hx210_0⟩ := Kd.at_string HR0.out x4_2 p210 q210
                            obtain rfl : ad208 = ad210 := (by injection e210)
                            replace p210 := eq_true p210
                            replace q210 := eq_true q210
                            have p211 : 0 ≤ (x3_1 : Int) := of_decide_eq_true (by first | (with_reducible assumption))
                            have q211 : x3_1 < (l0.length : Int) := of_decide_eq_true (by first | (with_reducible assumption))
                            obtain ⟨ad211, e211, hx211_0⟩ := Kd.at_string HR0.out x3_1 p211 q211
                            obtain rfl : ad208 = ad211 := (by injection e211)
                            replace p211 := eq_true p211
                            replace q211 := eq_true q211
                            go_wp2
                            repeat (go_quiet (fail); try go_wp2)
                            go_ret
                            exact ⟨by first | rfl, by repeat (first | exact Drawn0.refl _ | apply Drawn0.step)⟩
                          · rw [if_neg c11] at H
                            have c11b0 : ((rdOf ByteArray.empty l0 x4_2).toList == (rdOf ByteArray.empty l0 x3_1).toList) = false := beq_eq_false_iff_ne.mpr c11
                            have c11b1 : ((rdOf ByteArray.empty l0 x4_2).toList != (rdOf ByteArray.empty l0 x3_1).toList) = true := bne_iff_ne.mpr c11
                            have H' := Aside0.mk H
                            clear H
                            have p210 : 0 ≤ (x4_2 : Int) := of_decide_eq_true (by first | (with_reducible assumption))
                            have q210 : x4_2 < (l0.length : Int) := of_decide_eq_true (by first | (with_reducible assumption))
                            obtain ⟨ad210, e210, hx210_0⟩ := Kd.at_string HR0.out x4_2 p210 q210
                            obtain rfl : ad208 = ad210 := (by injection e210)
                            replace p210 := eq_true p210
                            replace q210 := eq_true q210
                            have p211 : 0 ≤ (x3_1 : Int) := of_decide_eq_true (by first | (with_reducible assumption))
                            have q211 : x3_1 < (l0.length : Int) := of_decide_eq_true (by first | (with_reducible assumption))
                            obtain ⟨ad211, e211, hx211_0⟩ := Kd.at_string HR0.out x3_1 p211 q211
                            obtain rfl : ad208 = ad211 := (by injection e211)
                            replace p211 := eq_true p211
                            replace q211 := eq_true q211
                            go_wp2
                            repeat (go_quiet (fail); try go_wp2)
                            go_roundg k2
                            case measure => have := HK1.out; have := HK2.out; omega
                            case rel => exact ⟨(wrap64 (x4_2 + 1)), rfl, H', ⟨by have := HK1.out; have := HK2.out; omega⟩, by repeat (first | exact Drawn0.refl _ | apply Drawn0.step)⟩
                        · rw [if_neg c10] at H
                          exact absurd H (by simp)
                      · rw [if_neg c9] at H
                        exact absurd H (by simp)
                    · rw [if_neg c8] at H
                      exact absurd H (by simp)
                  · rw [if_neg c7] at H
                    exact absurd H (by simp)
                · rw [if_neg c6] at H
                  have c6b0 : decide (x4_2 < x3_1) = false := decide_eq_false c6
                  clear c6
                  have H' := Aside0.mk H
                  clear H
                  go_wp2
                  repeat (go_quiet (fail); try go_wp2)
                  go_roundg k2
                  case measure => have := HK1.out; have := HK2.out; omega
                  case rel => exact ⟨(wrap64 (x3_1 + 1)), rfl, H', ⟨by have := HK1.out; have := HK2.out; omega⟩, by repeat (first | exact Drawn0.refl _ | apply Drawn0.step)⟩
          · replace c5 := Bool.eq_false_iff.mpr c5
            subst c5
            have H1 : (some false) = some r := by rw [if_neg (show ¬ (false = true) by decide)] at H; exact H
            clear H
            have H := H1
            clear H1
            obtain rfl := Option.some.inj H
            have p208 : 0 ≤ (x3_1 : Int) := of_decide_eq_true (by first | (with_reducible assumption))
            have q208 : x3_1 < (l0.length : Int) := of_decide_eq_true (by first | (with_reducible assumption))
            obtain ⟨ad208, e208, hx208_0⟩ := Kd.at_string HR0.out x3_1 p208 q208
            cases e208
            replace p208 := eq_true p208
            replace q208 := eq_true q208
            go_wp2_with (first | (go_at_call 47; (with_reducible refine (proofmarkref27_Plain.calls k1 (rdOf ByteArray.empty l0 x3_1) false _ A4.out).mono ?_); rintro e w' ⟨rfl, ⟨nd, rfl⟩⟩; (try first | fail)))
            repeat (go_quiet (first | fail); try go_wp2_with (first | fail))
            go_ret
            exact ⟨by first | rfl, by repeat (first | exact Drawn0.refl _ | apply Drawn0.step)⟩
        · rw [if_neg c3] at H
          exact absurd H (by simp)
      · rw [if_neg c2] at H
        have c2b0 : decide (x3_1 < (l0.length : Int)) = false := decide_eq_false c2
        clear c2
        obtain rfl := Option.some.inj H
        go_wp2
        repeat (go_quiet (fail); try go_wp2)
        go_ret
        exact ⟨by first | rfl, by repeat (first | exact Drawn0.refl _ | apply Drawn0.step)⟩

/-! ### proofmarkref27_Named: function 66 -/
mutual
def proofmarkref27_Named.l0 : Nat → List ByteArray → List ByteArray → Int → List (S96) → List (S111) → List (S94) → List (S73) → List (S111) → Option (Bool)
  | 0, _, _, _, _, _, _, _, _ => none
  | k + 1, x3, x4, x5, x213000, x213001, x213002, x213003, x213004 => if x5 < (x213001.length : Int) then (if 0 ≤ x5 then (if x3.length < 8796093022208 then (proofmarkref27_Named.l0 k (x3 ++ [(rd_T111 x213001 x5).f0]) x4 (wrap64 (x5 + 1)) x213000 x213001 x213002 x213003 x213004) else (none)) else (none)) else (proofmarkref27_Named.l1 k x3 x4 0 x213000 x213001 x213002 x213003 x213004)
def proofmarkref27_Named.l1 : Nat → List ByteArray → List ByteArray → Int → List (S96) → List (S111) → List (S94) → List (S73) → List (S111) → Option (Bool)
  | 0, _, _, _, _, _, _, _, _ => none
  | k + 1, x3, x4, x6, x213000, x213001, x213002, x213003, x213004 => if x6 < (x213002.length : Int) then (if 0 ≤ x6 then (if x4.length < 8796093022208 then (proofmarkref27_Named.l1 k x3 (x4 ++ [(rd_T94 x213002 x6).f0]) (wrap64 (x6 + 1)) x213000 x213001 x213002 x213003 x213004) else (none)) else (none)) else ((proofmarkref27_unlike.f k x3).bind fun t227 => (if t227 = true then ((proofmarkref27_unlike.f k x4).bind fun t228 => (some t228)) else (some false)))
end
def proofmarkref27_Named.f (k : Nat) (l0_0 : List (S96)) (l0_1 : List (S111)) (l0_2 : List (S94)) (l0_3 : List (S73)) (l0_4 : List (S111)) : Option (Bool) := proofmarkref27_Named.l0 k (([] : List ByteArray)) (([] : List ByteArray)) 0 l0_0 l0_1 l0_2 l0_3 l0_4
theorem proofmarkref27_Named.mono_l : ∀ k, (∀ y0 y1 y2 y3 y4 y5 y6 y7, LeO (proofmarkref27_Named.l0 k y0 y1 y2 y3 y4 y5 y6 y7) (proofmarkref27_Named.l0 (k + 1) y0 y1 y2 y3 y4 y5 y6 y7)) ∧ (∀ y0 y1 y2 y3 y4 y5 y6 y7, LeO (proofmarkref27_Named.l1 k y0 y1 y2 y3 y4 y5 y6 y7) (proofmarkref27_Named.l1 (k + 1) y0 y1 y2 y3 y4 y5 y6 y7))
  | 0 => ⟨fun _ _ _ _ _ _ _ _ r h => by simp [proofmarkref27_Named.l0] at h, fun _ _ _ _ _ _ _ _ r h => by simp [proofmarkref27_Named.l1] at h⟩
  | k + 1 => by
    obtain ⟨ih0, ih1⟩ := proofmarkref27_Named.mono_l k
    refine ⟨?_, ?_⟩
    · intro y0 y1 y2 y3 y4 y5 y6 y7
      unfold proofmarkref27_Named.l0
      repeat' first
      | (with_reducible exact ih0 _ _ _ _ _ _ _ _)
      | (with_reducible exact ih1 _ _ _ _ _ _ _ _)
      | (with_reducible exact proofmarkref27_unlike.mono _ _)
      | (with_reducible exact LeO.refl _)
      | (with_reducible exact LeO.none _)
      | (with_reducible refine LeO.ite ?_ ?_)
      | (with_reducible refine LeO.bind ?_ (fun _ => ?_))
      | exact ih0 _ _ _ _ _ _ _ _
      | exact ih1 _ _ _ _ _ _ _ _
      | exact proofmarkref27_unlike.mono _ _
      | exact LeO.none _
      | refine LeO.ite ?_ ?_
      | refine LeO.bind ?_ (fun _ => ?_)
    · intro y0 y1 y2 y3 y4 y5 y6 y7
      unfold proofmarkref27_Named.l1
      repeat' first
      | (with_reducible exact ih0 _ _ _ _ _ _ _ _)
      | (with_reducible exact ih1 _ _ _ _ _ _ _ _)
      | (with_reducible exact proofmarkref27_unlike.mono _ _)
      | (with_reducible exact LeO.refl _)
      | (with_reducible exact LeO.none _)
      | (with_reducible refine LeO.ite ?_ ?_)
      | (with_reducible refine LeO.bind ?_ (fun _ => ?_))
      | exact ih0 _ _ _ _ _ _ _ _
      | exact ih1 _ _ _ _ _ _ _ _
      | exact proofmarkref27_unlike.mono _ _
      | exact LeO.none _
      | refine LeO.ite ?_ ?_
      | refine LeO.bind ?_ (fun _ => ?_)
theorem proofmarkref27_Named.mono : ∀ a0 a1 a2 a3 a4 k, LeO (proofmarkref27_Named.f k a0 a1 a2 a3 a4) (proofmarkref27_Named.f (k + 1) a0 a1 a2 a3 a4) := by
  intro a0 a1 a2 a3 a4 k
  obtain ⟨ih0, ih1⟩ := proofmarkref27_Named.mono_l k
  unfold proofmarkref27_Named.f
  repeat' first
      | (with_reducible exact ih0 _ _ _ _ _ _ _ _)
      | (with_reducible exact ih1 _ _ _ _ _ _ _ _)
      | (with_reducible exact proofmarkref27_unlike.mono _ _)
      | (with_reducible exact LeO.refl _)
      | (with_reducible exact LeO.none _)
      | (with_reducible refine LeO.ite ?_ ?_)
      | (with_reducible refine LeO.bind ?_ (fun _ => ?_))
      | exact ih0 _ _ _ _ _ _ _ _
      | exact ih1 _ _ _ _ _ _ _ _
      | exact proofmarkref27_unlike.mono _ _
      | exact LeO.none _
      | refine LeO.ite ?_ ?_
      | refine LeO.bind ?_ (fun _ => ?_)
set_option maxHeartbeats 8000000 in
set_option maxRecDepth 100000 in
theorem proofmarkref27_Named.calls (k : Nat) (A0_0 : Option Addr) (c0_0 : Nat) (l0_0 : List (S96)) (A0_1 : Option Addr) (c0_1 : Nat) (l0_1 : List (S111)) (A0_2 : Option Addr) (c0_2 : Nat) (l0_2 : List (S94)) (A0_3 : Option Addr) (c0_3 : Nat) (l0_3 : List (S73)) (A0_4 : Option Addr) (c0_4 : Nat) (l0_4 : List (S111)) (r : Bool) (w : World) (hr0_0 : Kd.C k96 w A0_0 l0_0.length l0_0) (hc0_0 : l0_0.length ≤ c0_0) (hr0_1 : Kd.C k111 w A0_1 l0_1.length l0_1) (hc0_1 : l0_1.length ≤ c0_1) (hr0_2 : Kd.C k94 w A0_2 l0_2.length l0_2) (hc0_2 : l0_2.length ≤ c0_2) (hr0_3 : Kd.C k73 w A0_3 l0_3.length l0_3) (hc0_3 : l0_3.length ≤ c0_3) (hr0_4 : Kd.C k111 w A0_4 l0_4.length l0_4) (hc0_4 : l0_4.length ≤ c0_4) (h : proofmarkref27_Named.f k l0_0 l0_1 l0_2 l0_3 l0_4 = some r) :
    Calls Tryd.prog 66 #[.agg #[.slice A0_0 l0_0.length c0_0, .slice A0_1 l0_1.length c0_1, .slice A0_2 l0_2.length c0_2, .slice A0_3 l0_3.length c0_3, .slice A0_4 l0_4.length c0_4]] w fun e w' => e = .returned (.bool r) ∧ Below w.heap.size w w' := by
  have hu27 := Tryd.underlying27
  have HR0_0 := Aside0.mk hr0_0
  have HC0_0 := Aside0.mk hc0_0
  clear hr0_0 hc0_0
  have HR0_1 := Aside0.mk hr0_1
  have HC0_1 := Aside0.mk hc0_1
  clear hr0_1 hc0_1
  have HR0_2 := Aside0.mk hr0_2
  have HC0_2 := Aside0.mk hc0_2
  clear hr0_2 hc0_2
  have HR0_3 := Aside0.mk hr0_3
  have HC0_3 := Aside0.mk hc0_3
  clear hr0_3 hc0_3
  have HR0_4 := Aside0.mk hr0_4
  have HC0_4 := Aside0.mk hc0_4
  clear hr0_4 hc0_4
  have HB := Aside0.mk (Below.refl w.heap.size w)
  have H : (proofmarkref27_Named.l0 k (([] : List ByteArray)) (([] : List ByteArray)) 0 l0_0 l0_1 l0_2 l0_3 l0_4) = some r := h
  clear h
  obtain ⟨y213, hy213⟩ : ∃ y_ : List ByteArray, y_ = (([] : List ByteArray)) := ⟨_, rfl⟩
  replace H : (proofmarkref27_Named.l0 k y213 (([] : List ByteArray)) 0 l0_0 l0_1 l0_2 l0_3 l0_4) = some r := by first | (rw [hy213]; with_reducible exact H)
  have Ny213 := Aside0.mk hy213
  clear hy213
  obtain ⟨y216, hy216⟩ : ∃ y_ : List ByteArray, y_ = (([] : List ByteArray)) := ⟨_, rfl⟩
  replace H : (proofmarkref27_Named.l0 k y213 y216 0 l0_0 l0_1 l0_2 l0_3 l0_4) = some r := by first | (rw [hy216]; with_reducible exact H)
  have Ny216 := Aside0.mk hy216
  clear hy216
  have H' := Aside0.mk H
  clear H
  go_enter Tryd.func66, Tryd.ntmps66
  go_wp2_with (first | ((with_reducible refine gate_dst (N := 1) rfl ?_); refine box_event ?hg (N := 1) ?hd (cs := #[.slice A0_0 l0_0.length c0_0, .slice A0_1 l0_1.length c0_1, .slice A0_2 l0_2.length c0_2, .slice A0_3 l0_3.length c0_3, .slice A0_4 l0_4.length c0_4]) (t := 27) ?hr ?_; (case hd => rfl); (case hg => rfl); (case hr => first | (go_simp; done)); intro gb212 hg w2 hbox hb; have n0_ := Aside0.mk (below_step HB.out hb); have n1_ := Aside0.mk (hbox); have n2_ := Aside0.mk ((by rw [hg]; exact (below_size HB.out) : w.heap.size ≤ gb212)); have n3_ := Aside0.mk ((by rw [hg]; exact (below_size HB.out) : w.heap.size ≤ gb212)); clear HB; have HB := n0_; have BK212 := n1_; have GW212 := n2_; have GE212 := n3_; clear n0_ n1_ n2_ n3_; clear hb hbox hg) | ((with_reducible refine gate_dst (N := 7) rfl ?_); refine Kd.R_lit Kd.string _ 9 ?hg (N := 7) ?hd (xs := ([] : List ByteArray)) (inner := []) (ok := fun _ => True) (okp := fun _ => True) ?hr ?hp (fun _ hk => hk) trivial (Below.refl _ _) (Nat.le_refl _) (by simp) ?_; (case hd => rfl); (case hg => rfl); (case hr => first | (go_simp; done)); (case hp => exact (Reps.none _ _)); intro v214 w3 ho4 hb hg_ hnew_; clear hg_ hnew_; (first | rw [← Ny213.out] at ho4); have n0_ := Aside0.mk (Kd.R_lower ho4 (below_size HB.out)); have n1_ := Aside0.mk (blk_below BK212.out hb); have n2_ := Aside0.mk (below_step HB.out hb); clear BK212; clear HB; have HO215 := n0_; have BK212 := n1_; have HB := n2_; clear n0_ n1_ n2_; clear hb ho4) | ((with_reducible refine gate_dst (N := 8) rfl ?_); refine Kd.R_lit Kd.string _ 9 ?hg (N := 8) ?hd (xs := ([] : List ByteArray)) (inner := []) (ok := fun _ => True) (okp := fun _ => True) ?hr ?hp (fun _ hk => hk) trivial (Below.refl _ _) (Nat.le_refl _) (by simp) ?_; (case hd => rfl); (case hg => rfl); (case hr => first | (go_simp; done)); (case hp => exact (Reps.none _ _)); intro v217 w5 ho6 hb hg_ hnew_; clear hg_ hnew_; (first | rw [← Ny216.out] at ho6); have n0_ := Aside0.mk (Kd.R_elder' HO215.out (Kd.R_base ho6) hb); have n1_ := Aside0.mk (Kd.R_lower (Kd.R_new' ho6 (Kd.R_lt HO215.out)) (below_size HB.out)); have n2_ := Aside0.mk (blk_below BK212.out hb); have n3_ := Aside0.mk (below_step HB.out hb); clear HO215; clear BK212; clear HB; have HO215 := n0_; have HO218 := n1_; have BK212 := n2_; have HB := n3_; clear n0_ n1_ n2_ n3_; clear hb ho6))
  try simp only [Act.put, List.setIfInBounds_toArray, List.set_cons_succ, List.set_cons_zero]
  go_loopg [3, 5] k (fun kq v3 v5 w' => ∃ (x3_1 : List ByteArray) (x5_1 : Int), v5 = .int .i64 x5_1 ∧ Aside0 (proofmarkref27_Named.l0 kq x3_1 y216 x5_1 l0_0 l0_1 l0_2 l0_3 l0_4 = some r) ∧ Aside0 (kq ≤ k) ∧ Aside0 (Kd.R Kd.string 9 w' w.heap.size (fun k_ => some k_ ≠ (v217 : Value).ownBlock) v3 x3_1) ∧ Aside0 (Kd.R Kd.string 9 w' w.heap.size (fun k_ => some k_ ≠ (v3 : Value).ownBlock) v217 y216) ∧ Aside0 (w'.heap[gb212]? = some (.cells #[(.slice A0_0 l0_0.length c0_0), (.slice A0_1 l0_1.length c0_1), (.slice A0_2 l0_2.length c0_2), (.slice A0_3 l0_3.length c0_3), (.slice A0_4 l0_4.length c0_4)] 27 (0, 0))) ∧ Aside0 (Below w.heap.size w w'))
  case atStart => exact ⟨(y213), (0), rfl, H', ⟨Nat.le_refl _⟩, ⟨by exact Kd.R_mono HO215.out (fun _ hk => hk.2)⟩, ⟨by exact Kd.R_mono HO218.out (fun _ hk => hk.2)⟩, ⟨by exact BK212.out⟩, ⟨by exact HB.out⟩⟩
  case round =>
    clear H'
    try clear p2
    try clear c6
    obtain ⟨x3_1, x5_1, rfl, HA, HK1, HO_3, HO_4, BK212, HB⟩ := hrel
    cases gk with
    | zero => exact absurd HA.out (by simp [proofmarkref27_Named.l0])
    | succ k1 =>
      have H := HA.out
      clear HA
      simp only [proofmarkref27_Named.l0] at H
      by_cases c7 : x5_1 < (l0_1.length : Int)
      · rw [if_pos c7] at H
        have c7b0 : decide (x5_1 < (l0_1.length : Int)) = true := decide_eq_true c7
        clear c7
        by_cases c8 : 0 ≤ x5_1
        · rw [if_pos c8] at H
          have c8b0 : decide (0 ≤ x5_1) = true := decide_eq_true c8
          clear c8
          by_cases c9 : x3_1.length < 8796093022208
          · rw [if_pos c9] at H
            have LMc9 := Aside0.mk c9
            clear c9
            obtain ⟨y220, hy220⟩ : ∃ y_ : List ByteArray, y_ = (x3_1 ++ [(rd_T111 l0_1 x5_1).f0]) := ⟨_, rfl⟩
            replace H : (proofmarkref27_Named.l0 k1 y220 y216 (wrap64 (x5_1 + 1)) l0_0 l0_1 l0_2 l0_3 l0_4) = some r := by first | (rw [hy220]; with_reducible exact H)
            have Ny220 := Aside0.mk hy220
            clear hy220
            have H' := Aside0.mk H
            clear H
            have hcz10_0 : wr.cell? ⟨gb212, 0, none⟩ = some (.slice A0_0 l0_0.length c0_0) := (blk_cell BK212.out 0).trans rfl
            have hcz10_1 : wr.cell? ⟨gb212, 1, none⟩ = some (.slice A0_1 l0_1.length c0_1) := (blk_cell BK212.out 1).trans rfl
            have hcz10_2 : wr.cell? ⟨gb212, 2, none⟩ = some (.slice A0_2 l0_2.length c0_2) := (blk_cell BK212.out 2).trans rfl
            have hcz10_3 : wr.cell? ⟨gb212, 3, none⟩ = some (.slice A0_3 l0_3.length c0_3) := (blk_cell BK212.out 3).trans rfl
            have hcz10_4 : wr.cell? ⟨gb212, 4, none⟩ = some (.slice A0_4 l0_4.length c0_4) := (blk_cell BK212.out 4).trans rfl
            have hfz10_0 := blk_frozen BK212.out 0
            have hfz10_1 := blk_frozen BK212.out 1
            have hfz10_2 := blk_frozen BK212.out 2
            have hfz10_3 := blk_frozen BK212.out 3
            have hfz10_4 := blk_frozen BK212.out 4
            have p219 : 0 ≤ (x5_1 : Int) := of_decide_eq_true (by first | (with_reducible assumption))
            have q219 : x5_1 < (l0_1.length : Int) := of_decide_eq_true (by first | (with_reducible assumption))
            obtain ⟨ad219, e219, hx219_0, hx219_1⟩ := at_T111 HR0_1.out x5_1 p219 q219
            cases e219
            replace hx219_0 := (HB.out.cell (World.block_lt_of_cell? w _ hx219_0)).trans hx219_0
            replace hx219_1 := (HB.out.cell (World.block_lt_of_cell? w _ hx219_1)).trans hx219_1
            replace p219 := eq_true p219
            replace q219 := eq_true q219
            go_wp2_with (first | ((with_reducible refine gate_builtin (b := .append) (xs := #[.tmp 16, .tmp 23]) rfl ?_); at_builtin; refine Kd.R_append Kd.string (w0 := w) w.heap.size rfl (.tmp 16) (.tmp 23) 106 9 (.string ⟨#[]⟩) 16 rfl Tryd.underlying106 info9 rfl (by decide) (by omega) u3 x3_1 ((rd_T111 l0_1 x5_1).f0) [.string ((rd_T111 l0_1 x5_1).f0)] (fun k_ => some k_ ≠ (v217 : Value).ownBlock) (fun _ => False) rfl rfl ?aP (fun _ hk => hk.elim) ?aF ?aO ?aB ?aS ?aL ?_; (case aP => exact rfl); (case aB => exact HB.out); (case aF => exact (fun k_ hk => Kd.fresh' (Kd.R_lt HO_4.out) k_ hk)); (case aO => exact HO_3.out); (case aS => exact (below_size HB.out)); (case aL => have := LMc9.out; omega); intro v221 w11 ho hb hg hat; rw [← Ny220.out] at ho; have n0_ := Aside0.mk (Kd.R_after (ok := (fun _ => True)) (by exact Kd.R_mono HO_4.out (fun _ hk => ⟨trivial, hk⟩)) hg hat); have n1_ := Aside0.mk (blk_grown (g := gb212) (o := .cells #[.slice A0_0 l0_0.length c0_0, .slice (some ad219) l0_1.length c0_1, .slice A0_2 l0_2.length c0_2, .slice A0_3 l0_3.length c0_3, .slice A0_4 l0_4.length c0_4] 27 (0, 0)) BK212.out hg (Kd.R_ne HO_3.out BK212.out (by decide))); have n2_ := Aside0.mk (hb); have n3_ := Aside0.mk (ho); clear HO_4; clear BK212; clear HB; clear HO_3; have HO_4 := n0_; have BK212 := n1_; have HB := n2_; have HO222 := n3_; clear n0_ n1_ n2_ n3_; clear ho hb hg hat))
            go_roundg k1
            case measure => have := HK1.out; omega
            case rel => exact ⟨(y220), (wrap64 (x5_1 + 1)), rfl, H', ⟨by have := HK1.out; omega⟩, ⟨by exact HO222.out⟩, ⟨by exact Kd.R_mono HO_4.out (fun _ hk => hk.2)⟩, ⟨by exact BK212.out⟩, ⟨by exact HB.out⟩⟩
          · rw [if_neg c9] at H
            exact absurd H (by simp)
        · rw [if_neg c8] at H
          exact absurd H (by simp)
      · rw [if_neg c7] at H
        have c7b0 : decide (x5_1 < (l0_1.length : Int)) = false := decide_eq_false c7
        clear c7
        have H' := Aside0.mk H
        clear H
        have hcz12_0 : wr.cell? ⟨gb212, 0, none⟩ = some (.slice A0_0 l0_0.length c0_0) := (blk_cell BK212.out 0).trans rfl
        have hcz12_1 : wr.cell? ⟨gb212, 1, none⟩ = some (.slice A0_1 l0_1.length c0_1) := (blk_cell BK212.out 1).trans rfl
        have hcz12_2 : wr.cell? ⟨gb212, 2, none⟩ = some (.slice A0_2 l0_2.length c0_2) := (blk_cell BK212.out 2).trans rfl
        have hcz12_3 : wr.cell? ⟨gb212, 3, none⟩ = some (.slice A0_3 l0_3.length c0_3) := (blk_cell BK212.out 3).trans rfl
        have hcz12_4 : wr.cell? ⟨gb212, 4, none⟩ = some (.slice A0_4 l0_4.length c0_4) := (blk_cell BK212.out 4).trans rfl
        have hfz12_0 := blk_frozen BK212.out 0
        have hfz12_1 := blk_frozen BK212.out 1
        have hfz12_2 := blk_frozen BK212.out 2
        have hfz12_3 := blk_frozen BK212.out 3
        have hfz12_4 := blk_frozen BK212.out 4
        go_wp2
        try simp only [Act.put, List.setIfInBounds_toArray, List.set_cons_succ, List.set_cons_zero]
        go_loopg [4, 6] k1 (fun kq v4 v6 w' => ∃ (x4_2 : List ByteArray) (x6_2 : Int), v6 = .int .i64 x6_2 ∧ Aside0 (proofmarkref27_Named.l1 kq x3_1 x4_2 x6_2 l0_0 l0_1 l0_2 l0_3 l0_4 = some r) ∧ Aside0 (kq ≤ k1) ∧ Aside0 (Kd.R Kd.string 9 w' w.heap.size (fun k_ => some k_ ≠ (v4 : Value).ownBlock) u3 x3_1) ∧ Aside0 (Kd.R Kd.string 9 w' w.heap.size (fun k_ => some k_ ≠ (u3 : Value).ownBlock) v4 x4_2) ∧ Aside0 (w'.heap[gb212]? = some (.cells #[(.slice A0_0 l0_0.length c0_0), (.slice A0_1 l0_1.length c0_1), (.slice A0_2 l0_2.length c0_2), (.slice A0_3 l0_3.length c0_3), (.slice A0_4 l0_4.length c0_4)] 27 (0, 0))) ∧ Aside0 (Below w.heap.size w w'))
        case atStart => exact ⟨(y216), (0), rfl, H', ⟨Nat.le_refl _⟩, ⟨by exact HO_3.out⟩, ⟨by exact HO_4.out⟩, ⟨by exact BK212.out⟩, ⟨by exact HB.out⟩⟩
        case round =>
          clear H'
          try clear p2
          try clear q2
          try clear hx2
          try clear c6
          try clear p6
          try clear c7
          try clear c7b0
          try clear c8
          try clear c8b0
          try clear c9
          try clear hcz10_0
          try clear hcz10_1
          try clear hcz10_2
          try clear hcz10_3
          try clear hcz10_4
          try clear hcz12_0
          try clear hcz12_1
          try clear hcz12_2
          try clear hcz12_3
          try clear hcz12_4
          try clear hfz10_0
          try clear hfz10_1
          try clear hfz10_2
          try clear hfz10_3
          try clear hfz10_4
          try clear hfz12_0
          try clear hfz12_1
          try clear hfz12_2
          try clear hfz12_3
          try clear hfz12_4
          try clear hx219_0
          try clear hx219_1
          try clear p2
          try clear p219
          try clear q219
          obtain ⟨x4_2, x6_2, rfl, HA, HK2, HO_3, HO_4, BK212, HB⟩ := hrel
          cases gk with
          | zero => exact absurd HA.out (by simp [proofmarkref27_Named.l1])
          | succ k2 =>
            have H := HA.out
            clear HA
            simp only [proofmarkref27_Named.l1] at H
            by_cases c13 : x6_2 < (l0_2.length : Int)
            · rw [if_pos c13] at H
              have c13b0 : decide (x6_2 < (l0_2.length : Int)) = true := decide_eq_true c13
              clear c13
              by_cases c14 : 0 ≤ x6_2
              · rw [if_pos c14] at H
                have c14b0 : decide (0 ≤ x6_2) = true := decide_eq_true c14
                clear c14
                by_cases c15 : x4_2.length < 8796093022208
                · rw [if_pos c15] at H
                  have LMc15 := Aside0.mk c15
                  clear c15
                  obtain ⟨y224, hy224⟩ : ∃ y_ : List ByteArray, y_ = (x4_2 ++ [(rd_T94 l0_2 x6_2).f0]) := ⟨_, rfl⟩
                  replace H : (proofmarkref27_Named.l1 k2 x3_1 y224 (wrap64 (x6_2 + 1)) l0_0 l0_1 l0_2 l0_3 l0_4) = some r := by first | (rw [hy224]; with_reducible exact H)
                  have Ny224 := Aside0.mk hy224
                  clear hy224
                  have H' := Aside0.mk H
                  clear H
                  have hcz16_0 : wr.cell? ⟨gb212, 0, none⟩ = some (.slice A0_0 l0_0.length c0_0) := (blk_cell BK212.out 0).trans rfl
                  have hcz16_1 : wr.cell? ⟨gb212, 1, none⟩ = some (.slice A0_1 l0_1.length c0_1) := (blk_cell BK212.out 1).trans rfl
                  have hcz16_2 : wr.cell? ⟨gb212, 2, none⟩ = some (.slice A0_2 l0_2.length c0_2) := (blk_cell BK212.out 2).trans rfl
                  have hcz16_3 : wr.cell? ⟨gb212, 3, none⟩ = some (.slice A0_3 l0_3.length c0_3) := (blk_cell BK212.out 3).trans rfl
                  have hcz16_4 : wr.cell? ⟨gb212, 4, none⟩ = some (.slice A0_4 l0_4.length c0_4) := (blk_cell BK212.out 4).trans rfl
                  have hfz16_0 := blk_frozen BK212.out 0
                  have hfz16_1 := blk_frozen BK212.out 1
                  have hfz16_2 := blk_frozen BK212.out 2
                  have hfz16_3 := blk_frozen BK212.out 3
                  have hfz16_4 := blk_frozen BK212.out 4
                  have p223 : 0 ≤ (x6_2 : Int) := of_decide_eq_true (by first | (with_reducible assumption))
                  have q223 : x6_2 < (l0_2.length : Int) := of_decide_eq_true (by first | (with_reducible assumption))
                  obtain ⟨ad223, e223, hx223_0, hx223_1, hx223_2, hx223_3⟩ := at_T94 HR0_2.out x6_2 p223 q223
                  cases e223
                  replace hx223_0 := (HB.out.cell (World.block_lt_of_cell? w _ hx223_0)).trans hx223_0
                  replace hx223_1 := (HB.out.cell (World.block_lt_of_cell? w _ hx223_1)).trans hx223_1
                  replace hx223_2 := (HB.out.cell (World.block_lt_of_cell? w _ hx223_2)).trans hx223_2
                  replace hx223_3 := (HB.out.cell (World.block_lt_of_cell? w _ hx223_3)).trans hx223_3
                  replace p223 := eq_true p223
                  replace q223 := eq_true q223
                  go_wp2_with (first | ((with_reducible refine gate_builtin (b := .append) (xs := #[.tmp 32, .tmp 39]) rfl ?_); at_builtin; refine Kd.R_append Kd.string (w0 := w) w.heap.size rfl (.tmp 32) (.tmp 39) 106 9 (.string ⟨#[]⟩) 16 rfl Tryd.underlying106 info9 rfl (by decide) (by omega) u4 x4_2 ((rd_T94 l0_2 x6_2).f0) [.string ((rd_T94 l0_2 x6_2).f0)] (fun k_ => some k_ ≠ (u3 : Value).ownBlock) (fun _ => False) rfl rfl ?aP (fun _ hk => hk.elim) ?aF ?aO ?aB ?aS ?aL ?_; (case aP => exact rfl); (case aB => exact HB.out); (case aF => exact (fun k_ hk => Kd.fresh' (Kd.R_lt HO_3.out) k_ hk)); (case aO => exact HO_4.out); (case aS => exact (below_size HB.out)); (case aL => have := LMc15.out; omega); intro v225 w17 ho hb hg hat; rw [← Ny224.out] at ho; have n0_ := Aside0.mk (Kd.R_after (ok := (fun _ => True)) (by exact Kd.R_mono HO_3.out (fun _ hk => ⟨trivial, hk⟩)) hg hat); have n1_ := Aside0.mk (blk_grown (g := gb212) (o := .cells #[.slice A0_0 l0_0.length c0_0, .slice A0_1 l0_1.length c0_1, .slice (some ad223) l0_2.length c0_2, .slice A0_3 l0_3.length c0_3, .slice A0_4 l0_4.length c0_4] 27 (0, 0)) BK212.out hg (Kd.R_ne HO_4.out BK212.out (by decide))); have n2_ := Aside0.mk (hb); have n3_ := Aside0.mk (ho); clear HO_3; clear BK212; clear HB; clear HO_4; have HO_3 := n0_; have BK212 := n1_; have HB := n2_; have HO226 := n3_; clear n0_ n1_ n2_ n3_; clear ho hb hg hat))
                  go_roundg k2
                  case measure => have := HK1.out; have := HK2.out; omega
                  case rel => exact ⟨(y224), (wrap64 (x6_2 + 1)), rfl, H', ⟨by have := HK1.out; have := HK2.out; omega⟩, ⟨by exact Kd.R_mono HO_3.out (fun _ hk => hk.2)⟩, ⟨by exact HO226.out⟩, ⟨by exact BK212.out⟩, ⟨by exact HB.out⟩⟩
                · rw [if_neg c15] at H
                  exact absurd H (by simp)
              · rw [if_neg c14] at H
                exact absurd H (by simp)
            · rw [if_neg c13] at H
              have c13b0 : decide (x6_2 < (l0_2.length : Int)) = false := decide_eq_false c13
              clear c13
              replace H := Option.bind_eq_some_iff.mp H
              obtain ⟨t227, A180, H⟩ := H
              replace H : (if t227 = true then ((proofmarkref27_unlike.f k2 x4_2).bind fun t228 => (some t228)) else (some false)) = some r := H
              have A18 := Aside0.mk A180
              clear A180
              by_cases c19 : t227 = true
              · subst c19
                have H1 : ((proofmarkref27_unlike.f k2 x4_2).bind fun t228 => (some t228)) = some r := by rw [if_pos rfl] at H; exact H
                clear H
                have H := H1
                clear H1
                replace H := Option.bind_eq_some_iff.mp H
                obtain ⟨t228, A200, H⟩ := H
                replace H : (some t228) = some r := H
                have A20 := Aside0.mk A200
                clear A200
                obtain rfl := Option.some.inj H
                have hcz21_0 : wr.cell? ⟨gb212, 0, none⟩ = some (.slice A0_0 l0_0.length c0_0) := (blk_cell BK212.out 0).trans rfl
                have hcz21_1 : wr.cell? ⟨gb212, 1, none⟩ = some (.slice A0_1 l0_1.length c0_1) := (blk_cell BK212.out 1).trans rfl
                have hcz21_2 : wr.cell? ⟨gb212, 2, none⟩ = some (.slice A0_2 l0_2.length c0_2) := (blk_cell BK212.out 2).trans rfl
                have hcz21_3 : wr.cell? ⟨gb212, 3, none⟩ = some (.slice A0_3 l0_3.length c0_3) := (blk_cell BK212.out 3).trans rfl
                have hcz21_4 : wr.cell? ⟨gb212, 4, none⟩ = some (.slice A0_4 l0_4.length c0_4) := (blk_cell BK212.out 4).trans rfl
                have hfz21_0 := blk_frozen BK212.out 0
                have hfz21_1 := blk_frozen BK212.out 1
                have hfz21_2 := blk_frozen BK212.out 2
                have hfz21_3 := blk_frozen BK212.out 3
                have hfz21_4 := blk_frozen BK212.out 4
                obtain ⟨Ao22, co22, eo22⟩ := Kd.R_slice HO_3.out
                subst eo22
                go_wp2_with (first | ((with_reducible refine gate_callee (f := 83) rfl ?_); refine goesL_ (some 42) rfl rfl Tryd.func83 (by kernel_rfl) rfl #[.slice Ao22 x3_1.length co22] rfl (by (try simp only [List.map_toArray, List.map_cons, List.map_nil]); first | rfl) ?_; (with_reducible refine (proofmarkref27_unlike.calls k2 _ _ x3_1 true _ ?side1 ?side2 A18.out).mono ?_); (case side1 => repeat (first | exact (Kd.R_reads' HO_3.out).2.2)); (case side2 => exact (Kd.R_reads' HO_3.out).2.1); rintro e w' ⟨rfl, ⟨nd, rfl⟩⟩; refine ⟨_, rfl, ?_⟩; obtain ⟨Ao23, co23, eo23⟩ := Kd.R_slice HO_4.out; subst eo23) | (go_at_call 83; (with_reducible refine (proofmarkref27_unlike.calls k2 _ _ x4_2 t228 _ ?side1 ?side2 A20.out).mono ?_); (case side1 => repeat (first | exact (Kd.R_reads' HO_4.out).2.2)); (case side2 => exact (Kd.R_reads' HO_4.out).2.1); rintro e w' ⟨rfl, ⟨nd, rfl⟩⟩))
                go_ret
                exact ⟨by first | rfl, by repeat (first | (with_reducible first | exact HB.out | apply pw_below_drewN))⟩
              · replace c19 := Bool.eq_false_iff.mpr c19
                subst c19
                have H1 : (some false) = some r := by rw [if_neg (show ¬ (false = true) by decide)] at H; exact H
                clear H
                have H := H1
                clear H1
                obtain rfl := Option.some.inj H
                have hcz24_0 : wr.cell? ⟨gb212, 0, none⟩ = some (.slice A0_0 l0_0.length c0_0) := (blk_cell BK212.out 0).trans rfl
                have hcz24_1 : wr.cell? ⟨gb212, 1, none⟩ = some (.slice A0_1 l0_1.length c0_1) := (blk_cell BK212.out 1).trans rfl
                have hcz24_2 : wr.cell? ⟨gb212, 2, none⟩ = some (.slice A0_2 l0_2.length c0_2) := (blk_cell BK212.out 2).trans rfl
                have hcz24_3 : wr.cell? ⟨gb212, 3, none⟩ = some (.slice A0_3 l0_3.length c0_3) := (blk_cell BK212.out 3).trans rfl
                have hcz24_4 : wr.cell? ⟨gb212, 4, none⟩ = some (.slice A0_4 l0_4.length c0_4) := (blk_cell BK212.out 4).trans rfl
                have hfz24_0 := blk_frozen BK212.out 0
                have hfz24_1 := blk_frozen BK212.out 1
                have hfz24_2 := blk_frozen BK212.out 2
                have hfz24_3 := blk_frozen BK212.out 3
                have hfz24_4 := blk_frozen BK212.out 4
                obtain ⟨Ao25, co25, eo25⟩ := Kd.R_slice HO_3.out
                subst eo25
                go_wp2_with (first | ((with_reducible refine gate_callee (f := 83) rfl ?_); refine goesL_ (some 42) rfl rfl Tryd.func83 (by kernel_rfl) rfl #[.slice Ao25 x3_1.length co25] rfl (by (try simp only [List.map_toArray, List.map_cons, List.map_nil]); first | rfl) ?_; (with_reducible refine (proofmarkref27_unlike.calls k2 _ _ x3_1 false _ ?side1 ?side2 A18.out).mono ?_); (case side1 => repeat (first | exact (Kd.R_reads' HO_3.out).2.2)); (case side2 => exact (Kd.R_reads' HO_3.out).2.1); rintro e w' ⟨rfl, ⟨nd, rfl⟩⟩; refine ⟨_, rfl, ?_⟩))
                go_ret
                exact ⟨by first | rfl, by repeat (first | (with_reducible first | exact HB.out | apply pw_below_drewN))⟩

end Go.Proofs.YtmfekngjhiofaaaDoor.Q
