-- Written by the session's own program (wip/tools/ownprint.py) for this claim: functions of the translation as plain Lean functions, and their contracts.
import Derived.Test.YtmfekngjhiofaaaDoorQx0
namespace Go.Proofs.YtmfekngjhiofaaaDoor.Q
open Go.RowKit Go.Proofs.YtmfekngjhiofaaaDoorW.PrintWords Go.Proofs.YtmfekngjhiofaaaDoorW.PrintLast Go.Proofs.YtmfekngjhiofaaaDoorW.PrintMore
attribute [local go_sem] max2_int min2_int max_two min_two max_three min_three max_four min_four   -- for this text's walks alone
set_option linter.unusedVariables false
set_option linter.unusedSimpArgs false

-- BY HAND: function 17 (proofmarkref30_Verdict)

/-! ### proofmarkref30_words: function 46 -/
def proofmarkref30_words.f (a0 : Int) : Option (ByteArray) := if a0 = 1 then (some (⟨#[97, 32, 110, 117, 109, 98, 101, 114, 32, 116, 104, 97, 116, 32, 109, 97, 121, 32, 110, 111, 116, 32, 98, 101]⟩ : ByteArray)) else (if a0 = 2 then (some (⟨#[116, 111, 111, 32, 109, 117, 99, 104]⟩ : ByteArray)) else (if a0 = 10 then (some (⟨#[110, 111, 32, 116, 111, 107, 101, 110, 32, 98, 101, 103, 105, 110, 115, 32, 116, 104, 101, 114, 101]⟩ : ByteArray)) else (if a0 = 20 then (some (⟨#[116, 104, 105, 115, 32, 109, 97, 121, 32, 110, 111, 116, 32, 115, 116, 97, 110, 100, 32, 116, 104, 101, 114, 101]⟩ : ByteArray)) else (if a0 = 21 then (some (⟨#[116, 104, 101, 32, 116, 101, 120, 116, 32, 101, 110, 100, 115, 32, 116, 111, 111, 32, 115, 111, 111, 110]⟩ : ByteArray)) else (if a0 = 40 then (some (⟨#[110, 111, 32, 115, 117, 99, 104, 32, 112, 97, 114, 97, 109, 101, 116, 101, 114]⟩ : ByteArray)) else (if a0 = 41 then (some (⟨#[111, 117, 116, 32, 111, 102, 32, 105, 116, 115, 32, 114, 97, 110, 103, 101]⟩ : ByteArray)) else (if a0 = 50 then (some (⟨#[97, 32, 110, 97, 109, 101, 32, 116, 104, 97, 116, 32, 115, 116, 97, 110, 100, 115, 32, 116, 119, 105, 99, 101]⟩ : ByteArray)) else (if a0 = 51 then (some (⟨#[110, 111, 32, 115, 117, 99, 104, 32, 110, 97, 109, 101]⟩ : ByteArray)) else (if a0 = 52 then (some (⟨#[97, 32, 110, 97, 109, 101, 32, 111, 102, 32, 97, 110, 111, 116, 104, 101, 114, 32, 107, 105, 110, 100]⟩ : ByteArray)) else (if a0 = 53 then (some (⟨#[97, 32, 112, 111, 114, 116, 32, 116, 104, 97, 116, 32, 105, 115, 32, 110, 111, 116, 32, 98, 111, 117, 110, 100, 32, 111, 110, 99, 101]⟩ : ByteArray)) else (if a0 = 54 then (some (⟨#[109, 111, 100, 117, 108, 101, 115, 32, 116, 104, 97, 116, 32, 115, 116, 97, 110, 100, 32, 105, 110, 32, 111, 110, 101, 32, 97, 110, 111, 116, 104, 101, 114]⟩ : ByteArray)) else (if a0 = 60 then (some (⟨#[119, 105, 100, 116, 104, 115, 32, 116, 104, 97, 116, 32, 100, 111, 32, 110, 111, 116, 32, 102, 105, 116]⟩ : ByteArray)) else (if a0 = 70 then (some (⟨#[110, 111, 116, 104, 105, 110, 103, 32, 100, 114, 105, 118, 101, 115, 32, 105, 116]⟩ : ByteArray)) else (if a0 = 71 then (some (⟨#[109, 111, 114, 101, 32, 116, 104, 97, 110, 32, 111, 110, 101, 32, 100, 114, 105, 118, 101, 115, 32, 105, 116]⟩ : ByteArray)) else (if a0 = 72 then (some (⟨#[105, 116, 32, 100, 114, 105, 118, 101, 115, 32, 105, 116, 115, 101, 108, 102]⟩ : ByteArray)) else (if a0 = 90 then (some (⟨#[97, 32, 110, 101, 116, 32, 116, 104, 97, 116, 32, 105, 115, 32, 110, 111, 116, 32, 114, 105, 103, 104, 116]⟩ : ByteArray)) else (if a0 = 190 then (some (⟨#[110, 111, 32, 109, 111, 114, 101, 32, 115, 116, 101, 112, 115]⟩ : ByteArray)) else (if a0 = 260 then (some (⟨#[97, 32, 99, 101, 114, 116, 105, 102, 105, 99, 97, 116, 101, 32, 116, 104, 97, 116, 32, 100, 111, 101, 115, 32, 110, 111, 116, 32, 104, 111, 108, 100]⟩ : ByteArray)) else (if a0 = 261 then (some (⟨#[97, 115, 115, 117, 109, 112, 116, 105, 111, 110, 115, 32, 116, 104, 97, 116, 32, 99, 111, 110, 116, 114, 97, 100, 105, 99, 116]⟩ : ByteArray)) else (some (⟨#[63]⟩ : ByteArray)))))))))))))))))))))
set_option maxHeartbeats 8000000 in
set_option maxRecDepth 100000 in
theorem proofmarkref30_words.calls (a0 : Int) (r : ByteArray) (w : World) (h : proofmarkref30_words.f a0 = some r) :
    Calls Tryd.prog 46 #[.int .i64 a0] w fun e w' => e = .returned (.string r) ∧ Drawn0 w w' := by
  have H : (if a0 = 1 then (some (⟨#[97, 32, 110, 117, 109, 98, 101, 114, 32, 116, 104, 97, 116, 32, 109, 97, 121, 32, 110, 111, 116, 32, 98, 101]⟩ : ByteArray)) else (if a0 = 2 then (some (⟨#[116, 111, 111, 32, 109, 117, 99, 104]⟩ : ByteArray)) else (if a0 = 10 then (some (⟨#[110, 111, 32, 116, 111, 107, 101, 110, 32, 98, 101, 103, 105, 110, 115, 32, 116, 104, 101, 114, 101]⟩ : ByteArray)) else (if a0 = 20 then (some (⟨#[116, 104, 105, 115, 32, 109, 97, 121, 32, 110, 111, 116, 32, 115, 116, 97, 110, 100, 32, 116, 104, 101, 114, 101]⟩ : ByteArray)) else (if a0 = 21 then (some (⟨#[116, 104, 101, 32, 116, 101, 120, 116, 32, 101, 110, 100, 115, 32, 116, 111, 111, 32, 115, 111, 111, 110]⟩ : ByteArray)) else (if a0 = 40 then (some (⟨#[110, 111, 32, 115, 117, 99, 104, 32, 112, 97, 114, 97, 109, 101, 116, 101, 114]⟩ : ByteArray)) else (if a0 = 41 then (some (⟨#[111, 117, 116, 32, 111, 102, 32, 105, 116, 115, 32, 114, 97, 110, 103, 101]⟩ : ByteArray)) else (if a0 = 50 then (some (⟨#[97, 32, 110, 97, 109, 101, 32, 116, 104, 97, 116, 32, 115, 116, 97, 110, 100, 115, 32, 116, 119, 105, 99, 101]⟩ : ByteArray)) else (if a0 = 51 then (some (⟨#[110, 111, 32, 115, 117, 99, 104, 32, 110, 97, 109, 101]⟩ : ByteArray)) else (if a0 = 52 then (some (⟨#[97, 32, 110, 97, 109, 101, 32, 111, 102, 32, 97, 110, 111, 116, 104, 101, 114, 32, 107, 105, 110, 100]⟩ : ByteArray)) else (if a0 = 53 then (some (⟨#[97, 32, 112, 111, 114, 116, 32, 116, 104, 97, 116, 32, 105, 115, 32, 110, 111, 116, 32, 98, 111, 117, 110, 100, 32, 111, 110, 99, 101]⟩ : ByteArray)) else (if a0 = 54 then (some (⟨#[109, 111, 100, 117, 108, 101, 115, 32, 116, 104, 97, 116, 32, 115, 116, 97, 110, 100, 32, 105, 110, 32, 111, 110, 101, 32, 97, 110, 111, 116, 104, 101, 114]⟩ : ByteArray)) else (if a0 = 60 then (some (⟨#[119, 105, 100, 116, 104, 115, 32, 116, 104, 97, 116, 32, 100, 111, 32, 110, 111, 116, 32, 102, 105, 116]⟩ : ByteArray)) else (if a0 = 70 then (some (⟨#[110, 111, 116, 104, 105, 110, 103, 32, 100, 114, 105, 118, 101, 115, 32, 105, 116]⟩ : ByteArray)) else (if a0 = 71 then (some (⟨#[109, 111, 114, 101, 32, 116, 104, 97, 110, 32, 111, 110, 101, 32, 100, 114, 105, 118, 101, 115, 32, 105, 116]⟩ : ByteArray)) else (if a0 = 72 then (some (⟨#[105, 116, 32, 100, 114, 105, 118, 101, 115, 32, 105, 116, 115, 101, 108, 102]⟩ : ByteArray)) else (if a0 = 90 then (some (⟨#[97, 32, 110, 101, 116, 32, 116, 104, 97, 116, 32, 105, 115, 32, 110, 111, 116, 32, 114, 105, 103, 104, 116]⟩ : ByteArray)) else (if a0 = 190 then (some (⟨#[110, 111, 32, 109, 111, 114, 101, 32, 115, 116, 101, 112, 115]⟩ : ByteArray)) else (if a0 = 260 then (some (⟨#[97, 32, 99, 101, 114, 116, 105, 102, 105, 99, 97, 116, 101, 32, 116, 104, 97, 116, 32, 100, 111, 101, 115, 32, 110, 111, 116, 32, 104, 111, 108, 100]⟩ : ByteArray)) else (if a0 = 261 then (some (⟨#[97, 115, 115, 117, 109, 112, 116, 105, 111, 110, 115, 32, 116, 104, 97, 116, 32, 99, 111, 110, 116, 114, 97, 100, 105, 99, 116]⟩ : ByteArray)) else (some (⟨#[63]⟩ : ByteArray)))))))))))))))))))))) = some r := h
  clear h
  by_cases c2 : a0 = 1
  · rw [if_pos c2] at H
    have c2b0 : (a0 == 1) = true := beq_iff_eq.mpr c2
    have c2b1 : (a0 != 1) = false := bne_eq_false_iff_eq.mpr c2
    clear c2
    obtain rfl := Option.some.inj H
    go_enter Tryd.func46, Tryd.ntmps46
    go_wp2
    go_ret
    exact ⟨by first | rfl, by repeat (first | exact Drawn0.refl _)⟩
  · rw [if_neg c2] at H
    have c2b0 : (a0 == 1) = false := beq_eq_false_iff_ne.mpr c2
    have c2b1 : (a0 != 1) = true := bne_iff_ne.mpr c2
    by_cases c3 : a0 = 2
    · rw [if_pos c3] at H
      have c3b0 : (a0 == 2) = true := beq_iff_eq.mpr c3
      have c3b1 : (a0 != 2) = false := bne_eq_false_iff_eq.mpr c3
      clear c3
      obtain rfl := Option.some.inj H
      go_enter Tryd.func46, Tryd.ntmps46
      go_wp2
      go_ret
      exact ⟨by first | rfl, by repeat (first | exact Drawn0.refl _)⟩
    · rw [if_neg c3] at H
      have c3b0 : (a0 == 2) = false := beq_eq_false_iff_ne.mpr c3
      have c3b1 : (a0 != 2) = true := bne_iff_ne.mpr c3
      by_cases c4 : a0 = 10
      · rw [if_pos c4] at H
        have c4b0 : (a0 == 10) = true := beq_iff_eq.mpr c4
        have c4b1 : (a0 != 10) = false := bne_eq_false_iff_eq.mpr c4
        clear c4
        obtain rfl := Option.some.inj H
        go_enter Tryd.func46, Tryd.ntmps46
        go_wp2
        go_ret
        exact ⟨by first | rfl, by repeat (first | exact Drawn0.refl _)⟩
      · rw [if_neg c4] at H
        have c4b0 : (a0 == 10) = false := beq_eq_false_iff_ne.mpr c4
        have c4b1 : (a0 != 10) = true := bne_iff_ne.mpr c4
        by_cases c5 : a0 = 20
        · rw [if_pos c5] at H
          have c5b0 : (a0 == 20) = true := beq_iff_eq.mpr c5
          have c5b1 : (a0 != 20) = false := bne_eq_false_iff_eq.mpr c5
          clear c5
          obtain rfl := Option.some.inj H
          go_enter Tryd.func46, Tryd.ntmps46
          go_wp2
          go_ret
          exact ⟨by first | rfl, by repeat (first | exact Drawn0.refl _)⟩
        · rw [if_neg c5] at H
          have c5b0 : (a0 == 20) = false := beq_eq_false_iff_ne.mpr c5
          have c5b1 : (a0 != 20) = true := bne_iff_ne.mpr c5
          by_cases c6 : a0 = 21
          · rw [if_pos c6] at H
            have c6b0 : (a0 == 21) = true := beq_iff_eq.mpr c6
            have c6b1 : (a0 != 21) = false := bne_eq_false_iff_eq.mpr c6
            clear c6
            obtain rfl := Option.some.inj H
            go_enter Tryd.func46, Tryd.ntmps46
            go_wp2
            go_ret
            exact ⟨by first | rfl, by repeat (first | exact Drawn0.refl _)⟩
          · rw [if_neg c6] at H
            have c6b0 : (a0 == 21) = false := beq_eq_false_iff_ne.mpr c6
            have c6b1 : (a0 != 21) = true := bne_iff_ne.mpr c6
            by_cases c7 : a0 = 40
            · rw [if_pos c7] at H
              have c7b0 : (a0 == 40) = true := beq_iff_eq.mpr c7
              have c7b1 : (a0 != 40) = false := bne_eq_false_iff_eq.mpr c7
              clear c7
              obtain rfl := Option.some.inj H
              go_enter Tryd.func46, Tryd.ntmps46
              go_wp2
              go_ret
              exact ⟨by first | rfl, by repeat (first | exact Drawn0.refl _)⟩
            · rw [if_neg c7] at H
              have c7b0 : (a0 == 40) = false := beq_eq_false_iff_ne.mpr c7
              have c7b1 : (a0 != 40) = true := bne_iff_ne.mpr c7
              by_cases c8 : a0 = 41
              · rw [if_pos c8] at H
                have c8b0 : (a0 == 41) = true := beq_iff_eq.mpr c8
                have c8b1 : (a0 != 41) = false := bne_eq_false_iff_eq.mpr c8
                clear c8
                obtain rfl := Option.some.inj H
                go_enter Tryd.func46, Tryd.ntmps46
                go_wp2
                go_ret
                exact ⟨by first | rfl, by repeat (first | exact Drawn0.refl _)⟩
              · rw [if_neg c8] at H
                have c8b0 : (a0 == 41) = false := beq_eq_false_iff_ne.mpr c8
                have c8b1 : (a0 != 41) = true := bne_iff_ne.mpr c8
                by_cases c9 : a0 = 50
                · rw [if_pos c9] at H
                  have c9b0 : (a0 == 50) = true := beq_iff_eq.mpr c9
                  have c9b1 : (a0 != 50) = false := bne_eq_false_iff_eq.mpr c9
                  clear c9
                  obtain rfl := Option.some.inj H
                  go_enter Tryd.func46, Tryd.ntmps46
                  go_wp2
                  go_ret
                  exact ⟨by first | rfl, by repeat (first | exact Drawn0.refl _)⟩
                · rw [if_neg c9] at H
                  have c9b0 : (a0 == 50) = false := beq_eq_false_iff_ne.mpr c9
                  have c9b1 : (a0 != 50) = true := bne_iff_ne.mpr c9
                  by_cases c10 : a0 = 51
                  · rw [if_pos c10] at H
                    have c10b0 : (a0 == 51) = true := beq_iff_eq.mpr c10
                    have c10b1 : (a0 != 51) = false := bne_eq_false_iff_eq.mpr c10
                    clear c10
                    obtain rfl := Option.some.inj H
                    go_enter Tryd.func46, Tryd.ntmps46
                    go_wp2
                    go_ret
                    exact ⟨by first | rfl, by repeat (first | exact Drawn0.refl _)⟩
                  · rw [if_neg c10] at H
                    have c10b0 : (a0 == 51) = false := beq_eq_false_iff_ne.mpr c10
                    have c10b1 : (a0 != 51) = true := bne_iff_ne.mpr c10
                    by_cases c11 : a0 = 52
                    · rw [if_pos c11] at H
                      have c11b0 : (a0 == 52) = true := beq_iff_eq.mpr c11
                      have c11b1 : (a0 != 52) = false := bne_eq_false_iff_eq.mpr c11
                      clear c11
                      obtain rfl := Option.some.inj H
                      go_enter Tryd.func46, Tryd.ntmps46
                      go_wp2
                      go_ret
                      exact ⟨by first | rfl, by repeat (first | exact Drawn0.refl _)⟩
                    · rw [if_neg c11] at H
                      have c11b0 : (a0 == 52) = false := beq_eq_false_iff_ne.mpr c11
                      have c11b1 : (a0 != 52) = true := bne_iff_ne.mpr c11
                      by_cases c12 : a0 = 53
                      · rw [if_pos c12] at H
                        have c12b0 : (a0 == 53) = true := beq_iff_eq.mpr c12
                        have c12b1 : (a0 != 53) = false := bne_eq_false_iff_eq.mpr c12
                        clear c12
                        obtain rfl := Option.some.inj H
                        go_enter Tryd.func46, Tryd.ntmps46
                        go_wp2
                        go_ret
                        exact ⟨by first | rfl, by repeat (first | exact Drawn0.refl _)⟩
                      · rw [if_neg c12] at H
                        have c12b0 : (a0 == 53) = false := beq_eq_false_iff_ne.mpr c12
                        have c12b1 : (a0 != 53) = true := bne_iff_ne.mpr c12
                        by_cases c13 : a0 = 54
                        · rw [if_pos c13] at H
                          have c13b0 : (a0 == 54) = true := beq_iff_eq.mpr c13
                          have c13b1 : (a0 != 54) = false := bne_eq_false_iff_eq.mpr c13
                          clear c13
                          obtain rfl := Option.some.inj H
                          go_enter Tryd.func46, Tryd.ntmps46
                          go_wp2
                          go_ret
                          exact ⟨by first | rfl, by repeat (first | exact Drawn0.refl _)⟩
                        · rw [if_neg c13] at H
                          have c13b0 : (a0 == 54) = false := beq_eq_false_iff_ne.mpr c13
                          have c13b1 : (a0 != 54) = true := bne_iff_ne.mpr c13
                          by_cases c14 : a0 = 60
                          · rw [if_pos c14] at H
                            have c14b0 : (a0 == 60) = true := beq_iff_eq.mpr c14
                            have c14b1 : (a0 != 60) = false := bne_eq_false_iff_eq.mpr c14
                            clear c14
                            obtain rfl := Option.some.inj H
                            go_enter Tryd.func46, Tryd.ntmps46
                            go_wp2
                            go_ret
                            exact ⟨by first | rfl, by repeat (first | exact Drawn0.refl _)⟩
                          · rw [if_neg c14] at H
                            have c14b0 : (a0 == 60) = false := beq_eq_false_iff_ne.mpr c14
                            have c14b1 : (a0 != 60) = true := bne_iff_ne.mpr c14
                            by_cases c15 : a0 = 70
                            · rw [if_pos c15] at H
                              have c15b0 : (a0 == 70) = true := beq_iff_eq.mpr c15
                              have c15b1 : (a0 != 70) = false := bne_eq_false_iff_eq.mpr c15
                              clear c15
                              obtain rfl := Option.some.inj H
                              go_enter Tryd.func46, Tryd.ntmps46
                              go_wp2
                              go_ret
                              exact ⟨by first | rfl, by repeat (first | exact Drawn0.refl _)⟩
                            · rw [if_neg c15] at H
                              have c15b0 : (a0 == 70) = false := beq_eq_false_iff_ne.mpr c15
                              have c15b1 : (a0 != 70) = true := bne_iff_ne.mpr c15
                              by_cases c16 : a0 = 71
                              · rw [if_pos c16] at H
                                have c16b0 : (a0 == 71) = true := beq_iff_eq.mpr c16
                                have c16b1 : (a0 != 71) = false := bne_eq_false_iff_eq.mpr c16
                                clear c16
                                obtain rfl := Option.some.inj H
                                go_enter Tryd.func46, Tryd.ntmps46
                                go_wp2
                                go_ret
                                exact ⟨by first | rfl, by repeat (first | exact Drawn0.refl _)⟩
                              · rw [if_neg c16] at H
                                have c16b0 : (a0 == 71) = false := beq_eq_false_iff_ne.mpr c16
                                have c16b1 : (a0 != 71) = true := bne_iff_ne.mpr c16
                                by_cases c17 : a0 = 72
                                · rw [if_pos c17] at H
                                  have c17b0 : (a0 == 72) = true := beq_iff_eq.mpr c17
                                  have c17b1 : (a0 != 72) = false := bne_eq_false_iff_eq.mpr c17
                                  clear c17
                                  obtain rfl := Option.some.inj H
                                  go_enter Tryd.func46, Tryd.ntmps46
                                  go_wp2
                                  go_ret
                                  exact ⟨by first | rfl, by repeat (first | exact Drawn0.refl _)⟩
                                · rw [if_neg c17] at H
                                  have c17b0 : (a0 == 72) = false := beq_eq_false_iff_ne.mpr c17
                                  have c17b1 : (a0 != 72) = true := bne_iff_ne.mpr c17
                                  by_cases c18 : a0 = 90
                                  · rw [if_pos c18] at H
                                    have c18b0 : (a0 == 90) = true := beq_iff_eq.mpr c18
                                    have c18b1 : (a0 != 90) = false := bne_eq_false_iff_eq.mpr c18
                                    clear c18
                                    obtain rfl := Option.some.inj H
                                    go_enter Tryd.func46, Tryd.ntmps46
                                    go_wp2
                                    go_ret
                                    exact ⟨by first | rfl, by repeat (first | exact Drawn0.refl _)⟩
                                  · rw [if_neg c18] at H
                                    have c18b0 : (a0 == 90) = false := beq_eq_false_iff_ne.mpr c18
                                    have c18b1 : (a0 != 90) = true := bne_iff_ne.mpr c18
                                    by_cases c19 : a0 = 190
                                    · rw [if_pos c19] at H
                                      have c19b0 : (a0 == 190) = true := beq_iff_eq.mpr c19
                                      have c19b1 : (a0 != 190) = false := bne_eq_false_iff_eq.mpr c19
                                      clear c19
                                      obtain rfl := Option.some.inj H
                                      go_enter Tryd.func46, Tryd.ntmps46
                                      go_wp2
                                      go_ret
                                      exact ⟨by first | rfl, by repeat (first | exact Drawn0.refl _)⟩
                                    · rw [if_neg c19] at H
                                      have c19b0 : (a0 == 190) = false := beq_eq_false_iff_ne.mpr c19
                                      have c19b1 : (a0 != 190) = true := bne_iff_ne.mpr c19
                                      by_cases c20 : a0 = 260
                                      · rw [if_pos c20] at H
                                        have c20b0 : (a0 == 260) = true := beq_iff_eq.mpr c20
                                        have c20b1 : (a0 != 260) = false := bne_eq_false_iff_eq.mpr c20
                                        clear c20
                                        obtain rfl := Option.some.inj H
                                        go_enter Tryd.func46, Tryd.ntmps46
                                        go_wp2
                                        go_ret
                                        exact ⟨by first | rfl, by repeat (first | exact Drawn0.refl _)⟩
                                      · rw [if_neg c20] at H
                                        have c20b0 : (a0 == 260) = false := beq_eq_false_iff_ne.mpr c20
                                        have c20b1 : (a0 != 260) = true := bne_iff_ne.mpr c20
                                        by_cases c21 : a0 = 261
                                        · rw [if_pos c21] at H
                                          have c21b0 : (a0 == 261) = true := beq_iff_eq.mpr c21
                                          have c21b1 : (a0 != 261) = false := bne_eq_false_iff_eq.mpr c21
                                          clear c21
                                          obtain rfl := Option.some.inj H
                                          go_enter Tryd.func46, Tryd.ntmps46
                                          go_wp2
                                          go_ret
                                          exact ⟨by first | rfl, by repeat (first | exact Drawn0.refl _)⟩
                                        · rw [if_neg c21] at H
                                          have c21b0 : (a0 == 261) = false := beq_eq_false_iff_ne.mpr c21
                                          have c21b1 : (a0 != 261) = true := bne_iff_ne.mpr c21
                                          obtain rfl := Option.some.inj H
                                          go_enter Tryd.func46, Tryd.ntmps46
                                          go_wp2
                                          go_ret
                                          exact ⟨by first | rfl, by repeat (first | exact Drawn0.refl _)⟩

end Go.Proofs.YtmfekngjhiofaaaDoor.Q
