-- Written by the session's own programs (wip/tools/ownprint.py, prune.py) for this claim: one function of the translation, the ways on which it answers true.
import Derived.Test.YtmfekngjhiofaaaGreatDoorQx0
import Derived.Test.YtmfekngjhiofaaaGreatDoorHHeadL
import Derived.Test.YtmfekngjhiofaaaGreatDoorQx4
import Derived.Test.YtmfekngjhiofaaaGreatDoorQx10
import Derived.Test.YtmfekngjhiofaaaGreatDoorQx11
import Derived.Test.YtmfekngjhiofaaaGreatDoorQx15
import Derived.Test.YtmfekngjhiofaaaGreatDoorHBack
import Derived.Test.YtmfekngjhiofaaaGreatDoorHRTrace
import Derived.Test.YtmfekngjhiofaaaGreatDoorHTab
namespace Go.Proofs.YtmfekngjhiofaaaGreatDoor.Q
open Go.RowKit Go.Proofs.YtmfekngjhiofaaaGreatDoorW.PrintWords Go.Proofs.YtmfekngjhiofaaaGreatDoorW.PrintLast Go.Proofs.YtmfekngjhiofaaaGreatDoorW.PrintMore
attribute [local go_sem] max2_int min2_int max_two min_two max_three min_three max_four min_four   -- for this text's walks alone
set_option linter.unusedVariables false
set_option linter.unusedSimpArgs false

/-! ### proofmarklaw27_LiftTells: function 3 -/
def proofmarklaw27_LiftTells.f (k : Nat) (l0_0 : List (S125)) (l0_1 : List (S72)) (l0_2 : List (S114)) (l0_3 : List (S105)) (l0_4 : List (S72)) (a0_5 : Int) (l0_6 : List (S199)) (l0_7 : List (S200)) (l0_8 : List (S94)) (l0_9 : List (S202)) (l0_10 : List (List Int)) (l0_11 : List Int) (a0_12 : ByteArray) : Option (Bool) := (proofmarklaw27_head.f k).bind fun t264 => ((proofmarklaw27_fit.f k l0_0 l0_1 l0_2 l0_3 l0_4 a0_5 l0_6 l0_7 l0_8 l0_9 l0_10 l0_11 a0_12).bind fun bt265 => ((proofmarkref27_Rows.f k l0_10).bind fun t295 => (if 0 ≤ (mn (a0_12.size : Int) 2000) then (if (mn (a0_12.size : Int) 2000) ≤ (a0_12.size : Int) then ((lift_Back.f bt265.1 bt265.2.1 bt265.2.2.1 bt265.2.2.2.1 bt265.2.2.2.2.1 (a0_12.extract 0 ((mn (a0_12.size : Int) 2000) : Int).toNat)).bind fun bt298 => ((proofmarkref27_Back.f k bt265.1 bt265.2.1 bt265.2.2.1 bt265.2.2.2.1 bt265.2.2.2.2.1 (a0_12.extract 0 ((mn (a0_12.size : Int) 2000) : Int).toNat)).bind fun bt302 => (if t264 = true then ((lift_Trace.f bt265.1 bt265.2.1 bt265.2.2.1 bt265.2.2.2.1 bt265.2.2.2.2.1 t295).bind fun t306 => ((proofmarkref27_Trace.f bt265.1 bt265.2.1 bt265.2.2.1 bt265.2.2.2.1 bt265.2.2.2.2.1 t295).bind fun t307 => (if t306.toList = t307.toList then (if (bt298.2 == bt302.2) = true then ((proofmarkref27_SameRows.f k bt298.1 bt302.1).bind fun t308 => (some t308)) else (some false)) else (some false)))) else (some false)))) else (none)) else (none))))
theorem proofmarklaw27_LiftTells.mono : ∀ a0 a1 a2 a3 a4 a5 a6 a7 a8 a9 a10 a11 a12 k, LeO (proofmarklaw27_LiftTells.f k a0 a1 a2 a3 a4 a5 a6 a7 a8 a9 a10 a11 a12) (proofmarklaw27_LiftTells.f (k + 1) a0 a1 a2 a3 a4 a5 a6 a7 a8 a9 a10 a11 a12) := by
  intro a0 a1 a2 a3 a4 a5 a6 a7 a8 a9 a10 a11 a12 k
  unfold proofmarklaw27_LiftTells.f
  repeat' first
      | (with_reducible exact proofmarklaw27_fit.mono _ _ _ _ _ _ _ _ _ _ _ _ _ _)
      | (with_reducible exact proofmarklaw27_head.mono _)
      | (with_reducible exact proofmarkref27_Back.mono _ _ _ _ _ _ _)
      | (with_reducible exact proofmarkref27_Rows.mono _ _)
      | (with_reducible exact proofmarkref27_SameRows.mono _ _ _)
      | (with_reducible exact LeO.refl _)
      | (with_reducible exact LeO.none _)
      | (with_reducible refine LeO.ite ?_ ?_)
      | (with_reducible refine LeO.bind ?_ (fun _ => ?_))
      | exact proofmarklaw27_fit.mono _ _ _ _ _ _ _ _ _ _ _ _ _ _
      | exact proofmarklaw27_head.mono _
      | exact proofmarkref27_Back.mono _ _ _ _ _ _ _
      | exact proofmarkref27_Rows.mono _ _
      | exact proofmarkref27_SameRows.mono _ _ _
      | exact LeO.none _
      | refine LeO.ite ?_ ?_
      | refine LeO.bind ?_ (fun _ => ?_)
def proofmarklaw27_LiftTells.T7 : Bool × List (List Nat × List Nat) := (true, [([], []), ([0], [0]), ([1], [1]), ([1], [1]), ([2, 3, 1, 1], [1, 2, 3]), ([1], [1]), ([1], [1]), ([5, 6, 4, 1], [1, 5, 6]), ([4, 7, 1], [1, 4, 7]), ([1, 8], [1, 8]), ([9, 7], [9]), ([10], [10]), ([10], [10]), ([11, 12, 10], [10, 11, 12]), ([10, 13], [10, 13]), ([14, 10], [14]), ([15], [15]), ([15], [15]), ([16, 17, 15, 15], [15, 16, 17]), ([15, 18], [15, 18]), ([19, 18, 0, 1, 2, 3, 4, 5, 6, 7, 8, 9, 10, 11, 12, 13, 14, 15, 16, 17, 18, 19], [19])])
def proofmarklaw27_LiftTells.B7 : List Nat := [0, 1, 3, 3, 15, 3, 3, 127, 255, 511, 1023, 2047, 2047, 8191, 16383, 32767, 65535, 65535, 262143, 524287, 1048575]
theorem proofmarklaw27_LiftTells.tab7 : rtab .any (opsOf Tryz.f3 7) = proofmarklaw27_LiftTells.T7 := by kernel_rfl
theorem proofmarklaw27_LiftTells.bits7 : waitsOk proofmarklaw27_LiftTells.T7.2 proofmarklaw27_LiftTells.B7 = true := by kernel_rfl
set_option maxHeartbeats 8000000 in
set_option maxRecDepth 100000 in
theorem proofmarklaw27_LiftTells.calls1 (k : Nat) (A0_0 : Option Addr) (c0_0 : Nat) (l0_0 : List (S125)) (A0_1 : Option Addr) (c0_1 : Nat) (l0_1 : List (S72)) (A0_2 : Option Addr) (c0_2 : Nat) (l0_2 : List (S114)) (A0_3 : Option Addr) (c0_3 : Nat) (l0_3 : List (S105)) (A0_4 : Option Addr) (c0_4 : Nat) (l0_4 : List (S72)) (a0_5 : Int) (A0_6 : Option Addr) (c0_6 : Nat) (l0_6 : List (S199)) (A0_7 : Option Addr) (c0_7 : Nat) (l0_7 : List (S200)) (A0_8 : Option Addr) (c0_8 : Nat) (l0_8 : List (S94)) (A0_9 : Option Addr) (c0_9 : Nat) (l0_9 : List (S202)) (A0_10 : Option Addr) (c0_10 : Nat) (l0_10 : List (List Int)) (A0_11 : Option Addr) (c0_11 : Nat) (l0_11 : List Int) (a0_12 : ByteArray) (r : Bool) (w : World) (hG : Tab w) (hr0_0 : Kd.C k125 w A0_0 l0_0.length l0_0) (hc0_0 : l0_0.length ≤ c0_0) (hr0_1 : Kd.C k72 w A0_1 l0_1.length l0_1) (hc0_1 : l0_1.length ≤ c0_1) (hr0_2 : Kd.C k114 w A0_2 l0_2.length l0_2) (hc0_2 : l0_2.length ≤ c0_2) (hr0_3 : Kd.C k105 w A0_3 l0_3.length l0_3) (hc0_3 : l0_3.length ≤ c0_3) (hr0_4 : Kd.C k72 w A0_4 l0_4.length l0_4) (hc0_4 : l0_4.length ≤ c0_4) (hr0_6 : Kd.C k199 w A0_6 l0_6.length l0_6) (hc0_6 : l0_6.length ≤ c0_6) (hr0_7 : Kd.C k200 w A0_7 l0_7.length l0_7) (hc0_7 : l0_7.length ≤ c0_7) (hr0_8 : Kd.C k94 w A0_8 l0_8.length l0_8) (hc0_8 : l0_8.length ≤ c0_8) (hr0_9 : Kd.C k202 w A0_9 l0_9.length l0_9) (hc0_9 : l0_9.length ≤ c0_9) (hr0_10 : Kd.C (Kd.slice 3 (Kd.int .i64)) w A0_10 l0_10.length l0_10) (hc0_10 : l0_10.length ≤ c0_10) (hr0_11 : Kd.C (Kd.int .i64) w A0_11 l0_11.length l0_11) (hc0_11 : l0_11.length ≤ c0_11) (h : proofmarklaw27_LiftTells.f k l0_0 l0_1 l0_2 l0_3 l0_4 a0_5 l0_6 l0_7 l0_8 l0_9 l0_10 l0_11 a0_12 = some r) (hr : r = true) :
    Calls Tryz.prog 3 #[.agg #[.slice A0_0 l0_0.length c0_0, .slice A0_1 l0_1.length c0_1, .slice A0_2 l0_2.length c0_2, .slice A0_3 l0_3.length c0_3, .slice A0_4 l0_4.length c0_4, .int .i64 a0_5, .slice A0_6 l0_6.length c0_6, .slice A0_7 l0_7.length c0_7, .slice A0_8 l0_8.length c0_8, .slice A0_9 l0_9.length c0_9, .slice A0_10 l0_10.length c0_10, .slice A0_11 l0_11.length c0_11, .string a0_12]] w fun e w' => e = .returned (.bool r) ∧ Below w.heap.size w w' := by
  have HRT := Aside0.mk hr
  clear hr
  have HG := Aside0.mk hG
  clear hG
  have hu39 := Tryz.underlying39
  have hu27 := Tryz.underlying27
  have hu35 := Tryz.underlying35
  have HR0_0 := Aside0.mk hr0_0
  have HC0_0 := Aside0.mk hc0_0
  clear hr0_0 hc0_0
  have HR0_1 := Aside0.mk hr0_1
  have HC0_1 := Aside0.mk hc0_1
  clear hr0_1 hc0_1
  have HR0_2 := Aside0.mk hr0_2
  have HC0_2 := Aside0.mk hc0_2
  clear hr0_2 hc0_2
  have HR0_3 := Aside0.mk hr0_3
  have HC0_3 := Aside0.mk hc0_3
  clear hr0_3 hc0_3
  have HR0_4 := Aside0.mk hr0_4
  have HC0_4 := Aside0.mk hc0_4
  clear hr0_4 hc0_4
  have HR0_6 := Aside0.mk hr0_6
  have HC0_6 := Aside0.mk hc0_6
  clear hr0_6 hc0_6
  have HR0_7 := Aside0.mk hr0_7
  have HC0_7 := Aside0.mk hc0_7
  clear hr0_7 hc0_7
  have HR0_8 := Aside0.mk hr0_8
  have HC0_8 := Aside0.mk hc0_8
  clear hr0_8 hc0_8
  have HR0_9 := Aside0.mk hr0_9
  have HC0_9 := Aside0.mk hc0_9
  clear hr0_9 hc0_9
  have HR0_10 := Aside0.mk hr0_10
  have HC0_10 := Aside0.mk hc0_10
  clear hr0_10 hc0_10
  have HR0_11 := Aside0.mk hr0_11
  have HC0_11 := Aside0.mk hc0_11
  clear hr0_11 hc0_11
  have HB := Aside0.mk (Below.refl w.heap.size w)
  have H : ((proofmarklaw27_head.f k).bind fun t264 => ((proofmarklaw27_fit.f k l0_0 l0_1 l0_2 l0_3 l0_4 a0_5 l0_6 l0_7 l0_8 l0_9 l0_10 l0_11 a0_12).bind fun bt265 => ((proofmarkref27_Rows.f k l0_10).bind fun t295 => (if 0 ≤ (mn (a0_12.size : Int) 2000) then (if (mn (a0_12.size : Int) 2000) ≤ (a0_12.size : Int) then ((lift_Back.f bt265.1 bt265.2.1 bt265.2.2.1 bt265.2.2.2.1 bt265.2.2.2.2.1 (a0_12.extract 0 ((mn (a0_12.size : Int) 2000) : Int).toNat)).bind fun bt298 => ((proofmarkref27_Back.f k bt265.1 bt265.2.1 bt265.2.2.1 bt265.2.2.2.1 bt265.2.2.2.2.1 (a0_12.extract 0 ((mn (a0_12.size : Int) 2000) : Int).toNat)).bind fun bt302 => (if t264 = true then ((lift_Trace.f bt265.1 bt265.2.1 bt265.2.2.1 bt265.2.2.2.1 bt265.2.2.2.2.1 t295).bind fun t306 => ((proofmarkref27_Trace.f bt265.1 bt265.2.1 bt265.2.2.1 bt265.2.2.2.1 bt265.2.2.2.2.1 t295).bind fun t307 => (if t306.toList = t307.toList then (if (bt298.2 == bt302.2) = true then ((proofmarkref27_SameRows.f k bt298.1 bt302.1).bind fun t308 => (some t308)) else (some false)) else (some false)))) else (some false)))) else (none)) else (none))))) = some r := h
  clear h
  replace H := Option.bind_eq_some_iff.mp H
  obtain ⟨t264, A20, H⟩ := H
  replace H : ((proofmarklaw27_fit.f k l0_0 l0_1 l0_2 l0_3 l0_4 a0_5 l0_6 l0_7 l0_8 l0_9 l0_10 l0_11 a0_12).bind fun bt265 => ((proofmarkref27_Rows.f k l0_10).bind fun t295 => (if 0 ≤ (mn (a0_12.size : Int) 2000) then (if (mn (a0_12.size : Int) 2000) ≤ (a0_12.size : Int) then ((lift_Back.f bt265.1 bt265.2.1 bt265.2.2.1 bt265.2.2.2.1 bt265.2.2.2.2.1 (a0_12.extract 0 ((mn (a0_12.size : Int) 2000) : Int).toNat)).bind fun bt298 => ((proofmarkref27_Back.f k bt265.1 bt265.2.1 bt265.2.2.1 bt265.2.2.2.1 bt265.2.2.2.2.1 (a0_12.extract 0 ((mn (a0_12.size : Int) 2000) : Int).toNat)).bind fun bt302 => (if t264 = true then ((lift_Trace.f bt265.1 bt265.2.1 bt265.2.2.1 bt265.2.2.2.1 bt265.2.2.2.2.1 t295).bind fun t306 => ((proofmarkref27_Trace.f bt265.1 bt265.2.1 bt265.2.2.1 bt265.2.2.2.1 bt265.2.2.2.2.1 t295).bind fun t307 => (if t306.toList = t307.toList then (if (bt298.2 == bt302.2) = true then ((proofmarkref27_SameRows.f k bt298.1 bt302.1).bind fun t308 => (some t308)) else (some false)) else (some false)))) else (some false)))) else (none)) else (none)))) = some r := H
  have A2 := Aside0.mk A20
  clear A20
  replace H := Option.bind_eq_some_iff.mp H
  obtain ⟨⟨t265, t268, t271, t274, t277, t280, t281, t284, t287, t290⟩, A30, H⟩ := H
  replace H : ((proofmarkref27_Rows.f k l0_10).bind fun t295 => (if 0 ≤ (mn (a0_12.size : Int) 2000) then (if (mn (a0_12.size : Int) 2000) ≤ (a0_12.size : Int) then ((lift_Back.f t265 t268 t271 t274 t277 (a0_12.extract 0 ((mn (a0_12.size : Int) 2000) : Int).toNat)).bind fun bt298 => ((proofmarkref27_Back.f k t265 t268 t271 t274 t277 (a0_12.extract 0 ((mn (a0_12.size : Int) 2000) : Int).toNat)).bind fun bt302 => (if t264 = true then ((lift_Trace.f t265 t268 t271 t274 t277 t295).bind fun t306 => ((proofmarkref27_Trace.f t265 t268 t271 t274 t277 t295).bind fun t307 => (if t306.toList = t307.toList then (if (bt298.2 == bt302.2) = true then ((proofmarkref27_SameRows.f k bt298.1 bt302.1).bind fun t308 => (some t308)) else (some false)) else (some false)))) else (some false)))) else (none)) else (none))) = some r := H
  have A3 := Aside0.mk A30
  clear A30
  replace H := Option.bind_eq_some_iff.mp H
  obtain ⟨t295, A40, H⟩ := H
  replace H : (if 0 ≤ (mn (a0_12.size : Int) 2000) then (if (mn (a0_12.size : Int) 2000) ≤ (a0_12.size : Int) then ((lift_Back.f t265 t268 t271 t274 t277 (a0_12.extract 0 ((mn (a0_12.size : Int) 2000) : Int).toNat)).bind fun bt298 => ((proofmarkref27_Back.f k t265 t268 t271 t274 t277 (a0_12.extract 0 ((mn (a0_12.size : Int) 2000) : Int).toNat)).bind fun bt302 => (if t264 = true then ((lift_Trace.f t265 t268 t271 t274 t277 t295).bind fun t306 => ((proofmarkref27_Trace.f t265 t268 t271 t274 t277 t295).bind fun t307 => (if t306.toList = t307.toList then (if (bt298.2 == bt302.2) = true then ((proofmarkref27_SameRows.f k bt298.1 bt302.1).bind fun t308 => (some t308)) else (some false)) else (some false)))) else (some false)))) else (none)) else (none)) = some r := H
  have A4 := Aside0.mk A40
  clear A40
  obtain ⟨ji5, hji5⟩ : ∃ j_ : Int, (mn (a0_12.size : Int) 2000) = j_ := ⟨_, rfl⟩
  replace H : (if 0 ≤ (ji5) then (if (ji5) ≤ (a0_12.size : Int) then ((lift_Back.f t265 t268 t271 t274 t277 (a0_12.extract 0 ((ji5) : Int).toNat)).bind fun bt298 => ((proofmarkref27_Back.f k t265 t268 t271 t274 t277 (a0_12.extract 0 ((ji5) : Int).toNat)).bind fun bt302 => (if t264 = true then ((lift_Trace.f t265 t268 t271 t274 t277 t295).bind fun t306 => ((proofmarkref27_Trace.f t265 t268 t271 t274 t277 t295).bind fun t307 => (if t306.toList = t307.toList then (if (bt298.2 == bt302.2) = true then ((proofmarkref27_SameRows.f k bt298.1 bt302.1).bind fun t308 => (some t308)) else (some false)) else (some false)))) else (some false)))) else (none)) else (none)) = some r := by first | (rw [hji5] at H; exact H)
  (try rw [hji5] at A2)
  (try rw [hji5] at A3)
  (try rw [hji5] at A4)
  (try (have hji5h : ji5 ≤ 2000 := by (rw [← hji5]; unfold mn; (repeat' split) <;> omega)))
  (try (have hji5g : ji5 ≤ 64 := by omega))
  (try (have hji5l : 0 ≤ ji5 := by (rw [← hji5]; unfold mn; (repeat' split) <;> omega)))
  (try (have hji5m : 0 ≤ ji5 := by omega))
  have hji5_ : (if 2000 < (a0_12.size : Int) then 2000 else (a0_12.size : Int)) = ji5 := hji5
  by_cases c6 : 0 ≤ (ji5)
  · rw [if_pos c6] at H
    have c6b0 := eq_true c6
    have c6b1 : decide (0 ≤ (ji5)) = true := decide_eq_true c6
    clear c6
    by_cases c7 : (ji5) ≤ (a0_12.size : Int)
    · rw [if_pos c7] at H
      have c7b0 := eq_true c7
      have c7b1 : decide ((ji5) ≤ (a0_12.size : Int)) = true := decide_eq_true c7
      clear c7
      replace H := Option.bind_eq_some_iff.mp H
      obtain ⟨⟨t298, t301⟩, A80, H⟩ := H
      replace H : ((proofmarkref27_Back.f k t265 t268 t271 t274 t277 (a0_12.extract 0 ((ji5) : Int).toNat)).bind fun bt302 => (if t264 = true then ((lift_Trace.f t265 t268 t271 t274 t277 t295).bind fun t306 => ((proofmarkref27_Trace.f t265 t268 t271 t274 t277 t295).bind fun t307 => (if t306.toList = t307.toList then (if (t301 == bt302.2) = true then ((proofmarkref27_SameRows.f k t298 bt302.1).bind fun t308 => (some t308)) else (some false)) else (some false)))) else (some false))) = some r := H
      have A8 := Aside0.mk A80
      clear A80
      replace H := Option.bind_eq_some_iff.mp H
      obtain ⟨⟨t302, t305⟩, A90, H⟩ := H
      replace H : (if t264 = true then ((lift_Trace.f t265 t268 t271 t274 t277 t295).bind fun t306 => ((proofmarkref27_Trace.f t265 t268 t271 t274 t277 t295).bind fun t307 => (if t306.toList = t307.toList then (if (t301 == t305) = true then ((proofmarkref27_SameRows.f k t298 t302).bind fun t308 => (some t308)) else (some false)) else (some false)))) else (some false)) = some r := H
      have A9 := Aside0.mk A90
      clear A90
      by_cases c10 : t264 = true
      · subst c10
        have H1 : ((lift_Trace.f t265 t268 t271 t274 t277 t295).bind fun t306 => ((proofmarkref27_Trace.f t265 t268 t271 t274 t277 t295).bind fun t307 => (if t306.toList = t307.toList then (if (t301 == t305) = true then ((proofmarkref27_SameRows.f k t298 t302).bind fun t308 => (some t308)) else (some false)) else (some false)))) = some r := by rw [if_pos rfl] at H; exact H
        clear H
        have H := H1
        clear H1
        replace H := Option.bind_eq_some_iff.mp H
        obtain ⟨t306, A110, H⟩ := H
        replace H : ((proofmarkref27_Trace.f t265 t268 t271 t274 t277 t295).bind fun t307 => (if t306.toList = t307.toList then (if (t301 == t305) = true then ((proofmarkref27_SameRows.f k t298 t302).bind fun t308 => (some t308)) else (some false)) else (some false))) = some r := H
        have A11 := Aside0.mk A110
        clear A110
        replace H := Option.bind_eq_some_iff.mp H
        obtain ⟨t307, A120, H⟩ := H
        replace H : (if t306.toList = t307.toList then (if (t301 == t305) = true then ((proofmarkref27_SameRows.f k t298 t302).bind fun t308 => (some t308)) else (some false)) else (some false)) = some r := H
        have A12 := Aside0.mk A120
        clear A120
        by_cases c13 : t306.toList = t307.toList
        · rw [if_pos c13] at H
          have c13b0 : (t306.toList == t307.toList) = true := beq_iff_eq.mpr c13
          have c13b1 : (t306.toList != t307.toList) = false := bne_eq_false_iff_eq.mpr c13
          clear c13
          by_cases c14 : (t301 == t305) = true
          · rw [if_pos c14] at H
            have c14b0 : (t301 == t305) = true := c14
            (try (have c14b1 : decide (t301 = t305) = true := by simpa using c14))
            (try (have c14b2 : (t301 == t305) = true := by simpa using c14))
            clear c14
            replace H := Option.bind_eq_some_iff.mp H
            obtain ⟨t308, A150, H⟩ := H
            replace H : (some t308) = some r := H
            have A15 := Aside0.mk A150
            clear A150
            obtain rfl := Option.some.inj H
            go_enter Tryz.func3, Tryz.ntmps3
            try go_wp2_with (first | ((with_reducible refine gate_dst (N := 1) rfl ?_); refine box_event ?hg (N := 1) ?hd (cs := #[.slice A0_0 l0_0.length c0_0, .slice A0_1 l0_1.length c0_1, .slice A0_2 l0_2.length c0_2, .slice A0_3 l0_3.length c0_3, .slice A0_4 l0_4.length c0_4, .int .i64 a0_5, .slice A0_6 l0_6.length c0_6, .slice A0_7 l0_7.length c0_7, .slice A0_8 l0_8.length c0_8, .slice A0_9 l0_9.length c0_9, .slice A0_10 l0_10.length c0_10, .slice A0_11 l0_11.length c0_11, .string a0_12]) (t := 39) ?hr ?_; (case hd => rfl); (case hg => rfl); (case hr => first | (go_simp; done)); intro gb263 hg w16 hbox hb; have n0_ := Aside0.mk (below_step HB.out hb); have n1_ := Aside0.mk (hbox); have n2_ := Aside0.mk ((by rw [hg]; exact (below_size HB.out) : w.heap.size ≤ gb263)); have n3_ := Aside0.mk ((by rw [hg]; exact (below_size HB.out) : w.heap.size ≤ gb263)); clear HB; have HB := n0_; have BK263 := n1_; have GW263 := n2_; have GE263 := n3_; clear n0_ n1_ n2_ n3_; clear hb hbox hg) | ((with_reducible refine gate_callee (f := 6) rfl ?_); refine goesL_ (some 12) rfl rfl Tryz.func6 (by kernel_rfl) rfl #[] rfl (by (try simp only [List.map_toArray, List.map_cons, List.map_nil]); first | done) ?_; (with_reducible refine (proofmarklaw27_head.calls k true _ (by first | (refine tab_below HG.out ?_; repeat (first | (with_reducible first | exact HB.out)))) A2.out).mono ?_); rintro e w17 ⟨rfl, hb⟩; refine ⟨_, rfl, ?_⟩; have n0_ := Aside0.mk (blk_below BK263.out hb); have n1_ := Aside0.mk (below_step HB.out hb); clear BK263; clear HB; have BK263 := n0_; have HB := n1_; clear n0_ n1_; (try clear hb); (try clear hb2); (try clear hk); (try clear hi); have hcz18_0 : w17.cell? ⟨gb263, 0, none⟩ = some (.slice A0_0 l0_0.length c0_0) := (blk_cell BK263.out 0).trans rfl; have hcz18_1 : w17.cell? ⟨gb263, 1, none⟩ = some (.slice A0_1 l0_1.length c0_1) := (blk_cell BK263.out 1).trans rfl; have hcz18_2 : w17.cell? ⟨gb263, 2, none⟩ = some (.slice A0_2 l0_2.length c0_2) := (blk_cell BK263.out 2).trans rfl; have hcz18_3 : w17.cell? ⟨gb263, 3, none⟩ = some (.slice A0_3 l0_3.length c0_3) := (blk_cell BK263.out 3).trans rfl; have hcz18_4 : w17.cell? ⟨gb263, 4, none⟩ = some (.slice A0_4 l0_4.length c0_4) := (blk_cell BK263.out 4).trans rfl; have hcz18_5 : w17.cell? ⟨gb263, 5, none⟩ = some (.int .i64 a0_5) := (blk_cell BK263.out 5).trans rfl; have hcz18_6 : w17.cell? ⟨gb263, 6, none⟩ = some (.slice A0_6 l0_6.length c0_6) := (blk_cell BK263.out 6).trans rfl; have hcz18_7 : w17.cell? ⟨gb263, 7, none⟩ = some (.slice A0_7 l0_7.length c0_7) := (blk_cell BK263.out 7).trans rfl; have hcz18_8 : w17.cell? ⟨gb263, 8, none⟩ = some (.slice A0_8 l0_8.length c0_8) := (blk_cell BK263.out 8).trans rfl; have hcz18_9 : w17.cell? ⟨gb263, 9, none⟩ = some (.slice A0_9 l0_9.length c0_9) := (blk_cell BK263.out 9).trans rfl; have hcz18_10 : w17.cell? ⟨gb263, 10, none⟩ = some (.slice A0_10 l0_10.length c0_10) := (blk_cell BK263.out 10).trans rfl; have hcz18_11 : w17.cell? ⟨gb263, 11, none⟩ = some (.slice A0_11 l0_11.length c0_11) := (blk_cell BK263.out 11).trans rfl; have hcz18_12 : w17.cell? ⟨gb263, 12, none⟩ = some (.string a0_12) := (blk_cell BK263.out 12).trans rfl; have hfz18_0 := blk_frozen BK263.out 0; have hfz18_1 := blk_frozen BK263.out 1; have hfz18_2 := blk_frozen BK263.out 2; have hfz18_3 := blk_frozen BK263.out 3; have hfz18_4 := blk_frozen BK263.out 4; have hfz18_5 := blk_frozen BK263.out 5; have hfz18_6 := blk_frozen BK263.out 6; have hfz18_7 := blk_frozen BK263.out 7; have hfz18_8 := blk_frozen BK263.out 8; have hfz18_9 := blk_frozen BK263.out 9; have hfz18_10 := blk_frozen BK263.out 10; have hfz18_11 := blk_frozen BK263.out 11; have hfz18_12 := blk_frozen BK263.out 12) | ((with_reducible refine gate_callee (f := 7) rfl ?_); refine goesL_ (some 15) rfl rfl Tryz.func7 (by kernel_rfl) rfl #[.agg #[.slice A0_0 l0_0.length c0_0, .slice A0_1 l0_1.length c0_1, .slice A0_2 l0_2.length c0_2, .slice A0_3 l0_3.length c0_3, .slice A0_4 l0_4.length c0_4, .int .i64 a0_5, .slice A0_6 l0_6.length c0_6, .slice A0_7 l0_7.length c0_7, .slice A0_8 l0_8.length c0_8, .slice A0_9 l0_9.length c0_9, .slice A0_10 l0_10.length c0_10, .slice A0_11 l0_11.length c0_11, .string a0_12]] rfl (by (try simp only [List.map_toArray, List.map_cons, List.map_nil]); first | rfl) ?_; (with_reducible refine (proofmarklaw27_fit.calls k _ _ l0_0 _ _ l0_1 _ _ l0_2 _ _ l0_3 _ _ l0_4 a0_5 _ _ l0_6 _ _ l0_7 _ _ l0_8 _ _ l0_9 _ _ l0_10 _ _ l0_11 a0_12 t265 t268 t271 t274 t277 t280 t281 t284 t287 t290 _ ?side1 ?side2 ?side3 ?side4 ?side5 ?side6 ?side7 ?side8 ?side9 ?side10 ?side11 ?side12 ?side13 ?side14 ?side15 ?side16 ?side17 ?side18 ?side19 ?side20 ?side21 ?side22 A3.out).mono ?_); (case side1 => repeat (first | exact (Kd.C_below HR0_0.out HB.out))); (case side2 => exact HC0_0.out); (case side3 => repeat (first | exact (Kd.C_below HR0_1.out HB.out))); (case side4 => exact HC0_1.out); (case side5 => repeat (first | exact (Kd.C_below HR0_2.out HB.out))); (case side6 => exact HC0_2.out); (case side7 => repeat (first | exact (Kd.C_below HR0_3.out HB.out))); (case side8 => exact HC0_3.out); (case side9 => repeat (first | exact (Kd.C_below HR0_4.out HB.out))); (case side10 => exact HC0_4.out); (case side11 => repeat (first | exact (Kd.C_below HR0_6.out HB.out))); (case side12 => exact HC0_6.out); (case side13 => repeat (first | exact (Kd.C_below HR0_7.out HB.out))); (case side14 => exact HC0_7.out); (case side15 => repeat (first | exact (Kd.C_below HR0_8.out HB.out))); (case side16 => exact HC0_8.out); (case side17 => repeat (first | exact (Kd.C_below HR0_9.out HB.out))); (case side18 => exact HC0_9.out); (case side19 => repeat (first | exact (Kd.C_below HR0_10.out HB.out))); (case side20 => exact HC0_10.out); (case side21 => repeat (first | exact (Kd.C_below HR0_11.out HB.out))); (case side22 => exact HC0_11.out); rintro e w19 ⟨v266, v269, v272, v275, v278, v282, v285, v288, v291, rfl, ho0, ho1, ho2, ho3, ho4, ho5, ho6, ho7, ho8, hb⟩; refine ⟨_, rfl, ?_⟩; have n0_ := Aside0.mk (Kd.R_lower ho0 (below_size HB.out)); have n1_ := Aside0.mk (Kd.R_lower ho1 (below_size HB.out)); have n2_ := Aside0.mk (Kd.R_lower ho2 (below_size HB.out)); have n3_ := Aside0.mk (Kd.R_lower ho3 (below_size HB.out)); have n4_ := Aside0.mk (Kd.R_lower ho4 (below_size HB.out)); have n5_ := Aside0.mk (Kd.R_lower ho5 (below_size HB.out)); have n6_ := Aside0.mk (Kd.R_lower ho6 (below_size HB.out)); have n7_ := Aside0.mk (Kd.R_lower ho7 (below_size HB.out)); have n8_ := Aside0.mk (Kd.R_lower ho8 (below_size HB.out)); have n9_ := Aside0.mk (blk_below BK263.out hb); have n10_ := Aside0.mk (below_step HB.out hb); clear BK263; clear HB; have HO267 := n0_; have HO270 := n1_; have HO273 := n2_; have HO276 := n3_; have HO279 := n4_; have HO283 := n5_; have HO286 := n6_; have HO289 := n7_; have HO292 := n8_; have BK263 := n9_; have HB := n10_; clear n0_ n1_ n2_ n3_ n4_ n5_ n6_ n7_ n8_ n9_ n10_; (try clear hb); (try clear hb2); (try clear hk); (try clear hi); (try clear ho0); (try clear ho1); (try clear ho2); (try clear ho3); (try clear ho4); (try clear ho5); (try clear ho6); (try clear ho7); (try clear ho8)) | ((with_reducible refine gate_dst (N := 4) rfl ?_); refine box_event ?hg (N := 4) ?hd (cs := #[.slice none 0 0, .slice none 0 0, .slice none 0 0, .slice none 0 0, .slice none 0 0]) (t := 27) ?hr ?_; (case hd => rfl); (case hg => rfl); (case hr => first | (go_simp; done)); intro gb293 hg w20 hbox hb; have n0_ := Aside0.mk (Kd.R_below HO267.out hb); have n1_ := Aside0.mk (Kd.R_below HO270.out hb); have n2_ := Aside0.mk (Kd.R_below HO273.out hb); have n3_ := Aside0.mk (Kd.R_below HO276.out hb); have n4_ := Aside0.mk (Kd.R_below HO279.out hb); have n5_ := Aside0.mk (Kd.R_below HO283.out hb); have n6_ := Aside0.mk (Kd.R_below HO286.out hb); have n7_ := Aside0.mk (Kd.R_below HO289.out hb); have n8_ := Aside0.mk (Kd.R_below HO292.out hb); have n9_ := Aside0.mk (blk_below BK263.out hb); have n10_ := Aside0.mk (below_step HB.out hb); have n11_ := Aside0.mk (hbox); have n12_ := Aside0.mk ((by rw [hg]; exact (below_size HB.out) : w.heap.size ≤ gb293)); have n13_ := Aside0.mk ((by rw [hg]; exact (below_size HB.out) : w.heap.size ≤ gb293)); have n14_ := Aside0.mk ((by rw [hg]; exact Nat.ne_of_lt (blk_lt BK263.out) : gb263 ≠ gb293)); have n15_ := Aside0.mk ((by rw [hg]; exact Nat.ne_of_gt (blk_lt BK263.out) : gb293 ≠ gb263)); clear HO267; clear HO270; clear HO273; clear HO276; clear HO279; clear HO283; clear HO286; clear HO289; clear HO292; clear BK263; clear HB; have HO267 := n0_; have HO270 := n1_; have HO273 := n2_; have HO276 := n3_; have HO279 := n4_; have HO283 := n5_; have HO286 := n6_; have HO289 := n7_; have HO292 := n8_; have BK263 := n9_; have HB := n10_; have BK293 := n11_; have GW293 := n12_; have GE293 := n13_; have NB263_293 := n14_; have NB293_263 := n15_; clear n0_ n1_ n2_ n3_ n4_ n5_ n6_ n7_ n8_ n9_ n10_ n11_ n12_ n13_ n14_ n15_; clear hb hbox hg) | ((with_reducible refine gate_dst (N := 5) rfl ?_); refine box_event ?hg (N := 5) ?hd (cs := #[.int .i64 0, .slice none 0 0, .slice none 0 0, .slice none 0 0, .slice none 0 0]) (t := 35) ?hr ?_; (case hd => rfl); (case hg => rfl); (case hr => first | (go_simp; done)); intro gb294 hg w21 hbox hb; have n0_ := Aside0.mk (Kd.R_below HO267.out hb); have n1_ := Aside0.mk (Kd.R_below HO270.out hb); have n2_ := Aside0.mk (Kd.R_below HO273.out hb); have n3_ := Aside0.mk (Kd.R_below HO276.out hb); have n4_ := Aside0.mk (Kd.R_below HO279.out hb); have n5_ := Aside0.mk (Kd.R_below HO283.out hb); have n6_ := Aside0.mk (Kd.R_below HO286.out hb); have n7_ := Aside0.mk (Kd.R_below HO289.out hb); have n8_ := Aside0.mk (Kd.R_below HO292.out hb); have n9_ := Aside0.mk (blk_below BK263.out hb); have n10_ := Aside0.mk (blk_below BK293.out hb); have n11_ := Aside0.mk (below_step HB.out hb); have n12_ := Aside0.mk (hbox); have n13_ := Aside0.mk ((by rw [hg]; exact (below_size HB.out) : w.heap.size ≤ gb294)); have n14_ := Aside0.mk ((by rw [hg]; exact (below_size HB.out) : w.heap.size ≤ gb294)); have n15_ := Aside0.mk ((by rw [hg]; exact Nat.ne_of_lt (blk_lt BK263.out) : gb263 ≠ gb294)); have n16_ := Aside0.mk ((by rw [hg]; exact Nat.ne_of_gt (blk_lt BK263.out) : gb294 ≠ gb263)); have n17_ := Aside0.mk ((by rw [hg]; exact Nat.ne_of_lt (blk_lt BK293.out) : gb293 ≠ gb294)); have n18_ := Aside0.mk ((by rw [hg]; exact Nat.ne_of_gt (blk_lt BK293.out) : gb294 ≠ gb293)); clear HO267; clear HO270; clear HO273; clear HO276; clear HO279; clear HO283; clear HO286; clear HO289; clear HO292; clear BK263; clear BK293; clear HB; have HO267 := n0_; have HO270 := n1_; have HO273 := n2_; have HO276 := n3_; have HO279 := n4_; have HO283 := n5_; have HO286 := n6_; have HO289 := n7_; have HO292 := n8_; have BK263 := n9_; have BK293 := n10_; have HB := n11_; have BK294 := n12_; have GW294 := n13_; have GE294 := n14_; have NB263_294 := n15_; have NB294_263 := n16_; have NB293_294 := n17_; have NB294_293 := n18_; clear n0_ n1_ n2_ n3_ n4_ n5_ n6_ n7_ n8_ n9_ n10_ n11_ n12_ n13_ n14_ n15_ n16_ n17_ n18_; clear hb hbox hg; obtain ⟨Ao22, co22, eo22⟩ := Kd.R_slice HO267.out; subst eo22; have hnb23 := NB293_263.out; have hnc23 := NB263_293.out; have hnb24 := NB293_294.out; have hnc24 := NB294_293.out; have hcz25_0 : w21.cell? ⟨gb293, 0, none⟩ = some (.slice none 0 0) := (blk_cell BK293.out 0).trans rfl; have hcz25_1 : w21.cell? ⟨gb293, 1, none⟩ = some (.slice none 0 0) := (blk_cell BK293.out 1).trans rfl; have hcz25_2 : w21.cell? ⟨gb293, 2, none⟩ = some (.slice none 0 0) := (blk_cell BK293.out 2).trans rfl; have hcz25_3 : w21.cell? ⟨gb293, 3, none⟩ = some (.slice none 0 0) := (blk_cell BK293.out 3).trans rfl; have hcz25_4 : w21.cell? ⟨gb293, 4, none⟩ = some (.slice none 0 0) := (blk_cell BK293.out 4).trans rfl; have hfz25_0 := blk_frozen BK293.out 0; have hfz25_1 := blk_frozen BK293.out 1; have hfz25_2 := blk_frozen BK293.out 2; have hfz25_3 := blk_frozen BK293.out 3; have hfz25_4 := blk_frozen BK293.out 4; obtain ⟨Ao26, co26, eo26⟩ := Kd.R_slice HO270.out; subst eo26; obtain ⟨Ao27, co27, eo27⟩ := Kd.R_slice HO273.out; subst eo27; obtain ⟨Ao28, co28, eo28⟩ := Kd.R_slice HO276.out; subst eo28; obtain ⟨Ao29, co29, eo29⟩ := Kd.R_slice HO279.out; subst eo29; have hnb30 := NB294_263.out; have hnc30 := NB263_294.out; have hcz31_0 : w21.cell? ⟨gb294, 0, none⟩ = some (.int .i64 0) := (blk_cell BK294.out 0).trans rfl; have hcz31_1 : w21.cell? ⟨gb294, 1, none⟩ = some (.slice none 0 0) := (blk_cell BK294.out 1).trans rfl; have hcz31_2 : w21.cell? ⟨gb294, 2, none⟩ = some (.slice none 0 0) := (blk_cell BK294.out 2).trans rfl; have hcz31_3 : w21.cell? ⟨gb294, 3, none⟩ = some (.slice none 0 0) := (blk_cell BK294.out 3).trans rfl; have hcz31_4 : w21.cell? ⟨gb294, 4, none⟩ = some (.slice none 0 0) := (blk_cell BK294.out 4).trans rfl; have hfz31_0 := blk_frozen BK294.out 0; have hfz31_1 := blk_frozen BK294.out 1; have hfz31_2 := blk_frozen BK294.out 2; have hfz31_3 := blk_frozen BK294.out 3; have hfz31_4 := blk_frozen BK294.out 4; obtain ⟨Ao32, co32, eo32⟩ := Kd.R_slice HO283.out; subst eo32; obtain ⟨Ao33, co33, eo33⟩ := Kd.R_slice HO286.out; subst eo33; obtain ⟨Ao34, co34, eo34⟩ := Kd.R_slice HO289.out; subst eo34; obtain ⟨Ao35, co35, eo35⟩ := Kd.R_slice HO292.out; subst eo35; have hcz36_0 : w21.cell? ⟨gb263, 0, none⟩ = some (.slice A0_0 l0_0.length c0_0) := (blk_cell BK263.out 0).trans rfl; have hcz36_1 : w21.cell? ⟨gb263, 1, none⟩ = some (.slice A0_1 l0_1.length c0_1) := (blk_cell BK263.out 1).trans rfl; have hcz36_2 : w21.cell? ⟨gb263, 2, none⟩ = some (.slice A0_2 l0_2.length c0_2) := (blk_cell BK263.out 2).trans rfl; have hcz36_3 : w21.cell? ⟨gb263, 3, none⟩ = some (.slice A0_3 l0_3.length c0_3) := (blk_cell BK263.out 3).trans rfl; have hcz36_4 : w21.cell? ⟨gb263, 4, none⟩ = some (.slice A0_4 l0_4.length c0_4) := (blk_cell BK263.out 4).trans rfl; have hcz36_5 : w21.cell? ⟨gb263, 5, none⟩ = some (.int .i64 a0_5) := (blk_cell BK263.out 5).trans rfl; have hcz36_6 : w21.cell? ⟨gb263, 6, none⟩ = some (.slice A0_6 l0_6.length c0_6) := (blk_cell BK263.out 6).trans rfl; have hcz36_7 : w21.cell? ⟨gb263, 7, none⟩ = some (.slice A0_7 l0_7.length c0_7) := (blk_cell BK263.out 7).trans rfl; have hcz36_8 : w21.cell? ⟨gb263, 8, none⟩ = some (.slice A0_8 l0_8.length c0_8) := (blk_cell BK263.out 8).trans rfl; have hcz36_9 : w21.cell? ⟨gb263, 9, none⟩ = some (.slice A0_9 l0_9.length c0_9) := (blk_cell BK263.out 9).trans rfl; have hcz36_10 : w21.cell? ⟨gb263, 10, none⟩ = some (.slice A0_10 l0_10.length c0_10) := (blk_cell BK263.out 10).trans rfl; have hcz36_11 : w21.cell? ⟨gb263, 11, none⟩ = some (.slice A0_11 l0_11.length c0_11) := (blk_cell BK263.out 11).trans rfl; have hcz36_12 : w21.cell? ⟨gb263, 12, none⟩ = some (.string a0_12) := (blk_cell BK263.out 12).trans rfl; have hfz36_0 := blk_frozen BK263.out 0; have hfz36_1 := blk_frozen BK263.out 1; have hfz36_2 := blk_frozen BK263.out 2; have hfz36_3 := blk_frozen BK263.out 3; have hfz36_4 := blk_frozen BK263.out 4; have hfz36_5 := blk_frozen BK263.out 5; have hfz36_6 := blk_frozen BK263.out 6; have hfz36_7 := blk_frozen BK263.out 7; have hfz36_8 := blk_frozen BK263.out 8; have hfz36_9 := blk_frozen BK263.out 9; have hfz36_10 := blk_frozen BK263.out 10; have hfz36_11 := blk_frozen BK263.out 11; have hfz36_12 := blk_frozen BK263.out 12) | ((with_reducible refine gate_callee (f := 8) rfl ?_); refine goesL_ (some 20) rfl rfl Tryz.func8 (by kernel_rfl) rfl #[.slice A0_10 l0_10.length c0_10] rfl (by (try simp only [List.map_toArray, List.map_cons, List.map_nil]); first | rfl) ?_; (with_reducible refine (proofmarkref27_Rows.calls k _ _ l0_10 t295 _ ?side1 ?side2 A4.out).mono ?_); (case side1 => exact Kd.C_below HR0_10.out (by repeat (first | (with_reducible first | exact HB.out | refine below_set ?_ GE293.out | refine below_set ?_ GE294.out)))); (case side2 => exact HC0_10.out); rintro e w37 ⟨v296, rfl, ho0, hb⟩; refine ⟨_, rfl, ?_⟩; have n0_ := Aside0.mk (Kd.R_below (by exact (Kd.R_mono (Kd.R_mono (Kd.R_far (p := ⟨gb294, 4, none⟩) (Kd.R_far (p := ⟨gb294, 3, none⟩) (Kd.R_far (p := ⟨gb294, 2, none⟩) (Kd.R_far (p := ⟨gb294, 1, none⟩) (Kd.R_far (p := ⟨gb294, 0, none⟩) (Kd.R_far (p := ⟨gb293, 4, none⟩) (Kd.R_far (p := ⟨gb293, 3, none⟩) (Kd.R_far (p := ⟨gb293, 2, none⟩) (Kd.R_far (p := ⟨gb293, 1, none⟩) (Kd.R_far (p := ⟨gb293, 0, none⟩) (Kd.R_types (Kd.R_types HO267.out BK293.out (by decide)) BK294.out (by decide)) (fun _ hk => hk.1.2) (.slice Ao22 t265.length co22)) (fun _ hk => hk.1.2) (.slice Ao26 t268.length co26)) (fun _ hk => hk.1.2) (.slice Ao27 t271.length co27)) (fun _ hk => hk.1.2) (.slice Ao28 t274.length co28)) (fun _ hk => hk.1.2) (.slice Ao29 t277.length co29)) (fun _ hk => hk.2) (.int .i64 t280)) (fun _ hk => hk.2) (.slice Ao32 t281.length co32)) (fun _ hk => hk.2) (.slice Ao33 t284.length co33)) (fun _ hk => hk.2) (.slice Ao34 t287.length co34)) (fun _ hk => hk.2) (.slice Ao35 t290.length co35)) (fun _ h_ => h_.1)) (fun _ h_ => h_.1))) hb); have n1_ := Aside0.mk (Kd.R_below (by exact (Kd.R_mono (Kd.R_mono (Kd.R_far (p := ⟨gb294, 4, none⟩) (Kd.R_far (p := ⟨gb294, 3, none⟩) (Kd.R_far (p := ⟨gb294, 2, none⟩) (Kd.R_far (p := ⟨gb294, 1, none⟩) (Kd.R_far (p := ⟨gb294, 0, none⟩) (Kd.R_far (p := ⟨gb293, 4, none⟩) (Kd.R_far (p := ⟨gb293, 3, none⟩) (Kd.R_far (p := ⟨gb293, 2, none⟩) (Kd.R_far (p := ⟨gb293, 1, none⟩) (Kd.R_far (p := ⟨gb293, 0, none⟩) (Kd.R_types (Kd.R_types HO270.out BK293.out (by decide)) BK294.out (by decide)) (fun _ hk => hk.1.2) (.slice Ao22 t265.length co22)) (fun _ hk => hk.1.2) (.slice Ao26 t268.length co26)) (fun _ hk => hk.1.2) (.slice Ao27 t271.length co27)) (fun _ hk => hk.1.2) (.slice Ao28 t274.length co28)) (fun _ hk => hk.1.2) (.slice Ao29 t277.length co29)) (fun _ hk => hk.2) (.int .i64 t280)) (fun _ hk => hk.2) (.slice Ao32 t281.length co32)) (fun _ hk => hk.2) (.slice Ao33 t284.length co33)) (fun _ hk => hk.2) (.slice Ao34 t287.length co34)) (fun _ hk => hk.2) (.slice Ao35 t290.length co35)) (fun _ h_ => h_.1)) (fun _ h_ => h_.1))) hb); have n2_ := Aside0.mk (Kd.R_below (by exact (Kd.R_mono (Kd.R_mono (Kd.R_far (p := ⟨gb294, 4, none⟩) (Kd.R_far (p := ⟨gb294, 3, none⟩) (Kd.R_far (p := ⟨gb294, 2, none⟩) (Kd.R_far (p := ⟨gb294, 1, none⟩) (Kd.R_far (p := ⟨gb294, 0, none⟩) (Kd.R_far (p := ⟨gb293, 4, none⟩) (Kd.R_far (p := ⟨gb293, 3, none⟩) (Kd.R_far (p := ⟨gb293, 2, none⟩) (Kd.R_far (p := ⟨gb293, 1, none⟩) (Kd.R_far (p := ⟨gb293, 0, none⟩) (Kd.R_types (Kd.R_types HO273.out BK293.out (by decide)) BK294.out (by decide)) (fun _ hk => hk.1.2) (.slice Ao22 t265.length co22)) (fun _ hk => hk.1.2) (.slice Ao26 t268.length co26)) (fun _ hk => hk.1.2) (.slice Ao27 t271.length co27)) (fun _ hk => hk.1.2) (.slice Ao28 t274.length co28)) (fun _ hk => hk.1.2) (.slice Ao29 t277.length co29)) (fun _ hk => hk.2) (.int .i64 t280)) (fun _ hk => hk.2) (.slice Ao32 t281.length co32)) (fun _ hk => hk.2) (.slice Ao33 t284.length co33)) (fun _ hk => hk.2) (.slice Ao34 t287.length co34)) (fun _ hk => hk.2) (.slice Ao35 t290.length co35)) (fun _ h_ => h_.1)) (fun _ h_ => h_.1))) hb); have n3_ := Aside0.mk (Kd.R_below (by exact (Kd.R_mono (Kd.R_mono (Kd.R_far (p := ⟨gb294, 4, none⟩) (Kd.R_far (p := ⟨gb294, 3, none⟩) (Kd.R_far (p := ⟨gb294, 2, none⟩) (Kd.R_far (p := ⟨gb294, 1, none⟩) (Kd.R_far (p := ⟨gb294, 0, none⟩) (Kd.R_far (p := ⟨gb293, 4, none⟩) (Kd.R_far (p := ⟨gb293, 3, none⟩) (Kd.R_far (p := ⟨gb293, 2, none⟩) (Kd.R_far (p := ⟨gb293, 1, none⟩) (Kd.R_far (p := ⟨gb293, 0, none⟩) (Kd.R_types (Kd.R_types HO276.out BK293.out (by decide)) BK294.out (by decide)) (fun _ hk => hk.1.2) (.slice Ao22 t265.length co22)) (fun _ hk => hk.1.2) (.slice Ao26 t268.length co26)) (fun _ hk => hk.1.2) (.slice Ao27 t271.length co27)) (fun _ hk => hk.1.2) (.slice Ao28 t274.length co28)) (fun _ hk => hk.1.2) (.slice Ao29 t277.length co29)) (fun _ hk => hk.2) (.int .i64 t280)) (fun _ hk => hk.2) (.slice Ao32 t281.length co32)) (fun _ hk => hk.2) (.slice Ao33 t284.length co33)) (fun _ hk => hk.2) (.slice Ao34 t287.length co34)) (fun _ hk => hk.2) (.slice Ao35 t290.length co35)) (fun _ h_ => h_.1)) (fun _ h_ => h_.1))) hb); have n4_ := Aside0.mk (Kd.R_below (by exact (Kd.R_mono (Kd.R_mono (Kd.R_far (p := ⟨gb294, 4, none⟩) (Kd.R_far (p := ⟨gb294, 3, none⟩) (Kd.R_far (p := ⟨gb294, 2, none⟩) (Kd.R_far (p := ⟨gb294, 1, none⟩) (Kd.R_far (p := ⟨gb294, 0, none⟩) (Kd.R_far (p := ⟨gb293, 4, none⟩) (Kd.R_far (p := ⟨gb293, 3, none⟩) (Kd.R_far (p := ⟨gb293, 2, none⟩) (Kd.R_far (p := ⟨gb293, 1, none⟩) (Kd.R_far (p := ⟨gb293, 0, none⟩) (Kd.R_types (Kd.R_types HO279.out BK293.out (by decide)) BK294.out (by decide)) (fun _ hk => hk.1.2) (.slice Ao22 t265.length co22)) (fun _ hk => hk.1.2) (.slice Ao26 t268.length co26)) (fun _ hk => hk.1.2) (.slice Ao27 t271.length co27)) (fun _ hk => hk.1.2) (.slice Ao28 t274.length co28)) (fun _ hk => hk.1.2) (.slice Ao29 t277.length co29)) (fun _ hk => hk.2) (.int .i64 t280)) (fun _ hk => hk.2) (.slice Ao32 t281.length co32)) (fun _ hk => hk.2) (.slice Ao33 t284.length co33)) (fun _ hk => hk.2) (.slice Ao34 t287.length co34)) (fun _ hk => hk.2) (.slice Ao35 t290.length co35)) (fun _ h_ => h_.1)) (fun _ h_ => h_.1))) hb); have n5_ := Aside0.mk (Kd.R_below (by exact (Kd.R_mono (Kd.R_mono (Kd.R_far (p := ⟨gb294, 4, none⟩) (Kd.R_far (p := ⟨gb294, 3, none⟩) (Kd.R_far (p := ⟨gb294, 2, none⟩) (Kd.R_far (p := ⟨gb294, 1, none⟩) (Kd.R_far (p := ⟨gb294, 0, none⟩) (Kd.R_far (p := ⟨gb293, 4, none⟩) (Kd.R_far (p := ⟨gb293, 3, none⟩) (Kd.R_far (p := ⟨gb293, 2, none⟩) (Kd.R_far (p := ⟨gb293, 1, none⟩) (Kd.R_far (p := ⟨gb293, 0, none⟩) (Kd.R_types (Kd.R_types HO283.out BK293.out (by decide)) BK294.out (by decide)) (fun _ hk => hk.1.2) (.slice Ao22 t265.length co22)) (fun _ hk => hk.1.2) (.slice Ao26 t268.length co26)) (fun _ hk => hk.1.2) (.slice Ao27 t271.length co27)) (fun _ hk => hk.1.2) (.slice Ao28 t274.length co28)) (fun _ hk => hk.1.2) (.slice Ao29 t277.length co29)) (fun _ hk => hk.2) (.int .i64 t280)) (fun _ hk => hk.2) (.slice Ao32 t281.length co32)) (fun _ hk => hk.2) (.slice Ao33 t284.length co33)) (fun _ hk => hk.2) (.slice Ao34 t287.length co34)) (fun _ hk => hk.2) (.slice Ao35 t290.length co35)) (fun _ h_ => h_.1)) (fun _ h_ => h_.1))) hb); have n6_ := Aside0.mk (Kd.R_below (by exact (Kd.R_mono (Kd.R_mono (Kd.R_far (p := ⟨gb294, 4, none⟩) (Kd.R_far (p := ⟨gb294, 3, none⟩) (Kd.R_far (p := ⟨gb294, 2, none⟩) (Kd.R_far (p := ⟨gb294, 1, none⟩) (Kd.R_far (p := ⟨gb294, 0, none⟩) (Kd.R_far (p := ⟨gb293, 4, none⟩) (Kd.R_far (p := ⟨gb293, 3, none⟩) (Kd.R_far (p := ⟨gb293, 2, none⟩) (Kd.R_far (p := ⟨gb293, 1, none⟩) (Kd.R_far (p := ⟨gb293, 0, none⟩) (Kd.R_types (Kd.R_types HO286.out BK293.out (by decide)) BK294.out (by decide)) (fun _ hk => hk.1.2) (.slice Ao22 t265.length co22)) (fun _ hk => hk.1.2) (.slice Ao26 t268.length co26)) (fun _ hk => hk.1.2) (.slice Ao27 t271.length co27)) (fun _ hk => hk.1.2) (.slice Ao28 t274.length co28)) (fun _ hk => hk.1.2) (.slice Ao29 t277.length co29)) (fun _ hk => hk.2) (.int .i64 t280)) (fun _ hk => hk.2) (.slice Ao32 t281.length co32)) (fun _ hk => hk.2) (.slice Ao33 t284.length co33)) (fun _ hk => hk.2) (.slice Ao34 t287.length co34)) (fun _ hk => hk.2) (.slice Ao35 t290.length co35)) (fun _ h_ => h_.1)) (fun _ h_ => h_.1))) hb); have n7_ := Aside0.mk (Kd.R_below (by exact (Kd.R_mono (Kd.R_mono (Kd.R_far (p := ⟨gb294, 4, none⟩) (Kd.R_far (p := ⟨gb294, 3, none⟩) (Kd.R_far (p := ⟨gb294, 2, none⟩) (Kd.R_far (p := ⟨gb294, 1, none⟩) (Kd.R_far (p := ⟨gb294, 0, none⟩) (Kd.R_far (p := ⟨gb293, 4, none⟩) (Kd.R_far (p := ⟨gb293, 3, none⟩) (Kd.R_far (p := ⟨gb293, 2, none⟩) (Kd.R_far (p := ⟨gb293, 1, none⟩) (Kd.R_far (p := ⟨gb293, 0, none⟩) (Kd.R_types (Kd.R_types HO289.out BK293.out (by decide)) BK294.out (by decide)) (fun _ hk => hk.1.2) (.slice Ao22 t265.length co22)) (fun _ hk => hk.1.2) (.slice Ao26 t268.length co26)) (fun _ hk => hk.1.2) (.slice Ao27 t271.length co27)) (fun _ hk => hk.1.2) (.slice Ao28 t274.length co28)) (fun _ hk => hk.1.2) (.slice Ao29 t277.length co29)) (fun _ hk => hk.2) (.int .i64 t280)) (fun _ hk => hk.2) (.slice Ao32 t281.length co32)) (fun _ hk => hk.2) (.slice Ao33 t284.length co33)) (fun _ hk => hk.2) (.slice Ao34 t287.length co34)) (fun _ hk => hk.2) (.slice Ao35 t290.length co35)) (fun _ h_ => h_.1)) (fun _ h_ => h_.1))) hb); have n8_ := Aside0.mk (Kd.R_below (by exact (Kd.R_mono (Kd.R_mono (Kd.R_far (p := ⟨gb294, 4, none⟩) (Kd.R_far (p := ⟨gb294, 3, none⟩) (Kd.R_far (p := ⟨gb294, 2, none⟩) (Kd.R_far (p := ⟨gb294, 1, none⟩) (Kd.R_far (p := ⟨gb294, 0, none⟩) (Kd.R_far (p := ⟨gb293, 4, none⟩) (Kd.R_far (p := ⟨gb293, 3, none⟩) (Kd.R_far (p := ⟨gb293, 2, none⟩) (Kd.R_far (p := ⟨gb293, 1, none⟩) (Kd.R_far (p := ⟨gb293, 0, none⟩) (Kd.R_types (Kd.R_types HO292.out BK293.out (by decide)) BK294.out (by decide)) (fun _ hk => hk.1.2) (.slice Ao22 t265.length co22)) (fun _ hk => hk.1.2) (.slice Ao26 t268.length co26)) (fun _ hk => hk.1.2) (.slice Ao27 t271.length co27)) (fun _ hk => hk.1.2) (.slice Ao28 t274.length co28)) (fun _ hk => hk.1.2) (.slice Ao29 t277.length co29)) (fun _ hk => hk.2) (.int .i64 t280)) (fun _ hk => hk.2) (.slice Ao32 t281.length co32)) (fun _ hk => hk.2) (.slice Ao33 t284.length co33)) (fun _ hk => hk.2) (.slice Ao34 t287.length co34)) (fun _ hk => hk.2) (.slice Ao35 t290.length co35)) (fun _ h_ => h_.1)) (fun _ h_ => h_.1))) hb); have n9_ := Aside0.mk (Kd.S_lower ho0 (below_size (by repeat (first | (with_reducible first | exact HB.out | refine below_set ?_ GE293.out | refine below_set ?_ GE294.out))))); have n10_ := Aside0.mk (blk_below (g := gb263) (o := .cells #[.slice A0_0 l0_0.length c0_0, .slice A0_1 l0_1.length c0_1, .slice A0_2 l0_2.length c0_2, .slice A0_3 l0_3.length c0_3, .slice A0_4 l0_4.length c0_4, .int .i64 a0_5, .slice A0_6 l0_6.length c0_6, .slice A0_7 l0_7.length c0_7, .slice A0_8 l0_8.length c0_8, .slice A0_9 l0_9.length c0_9, .slice A0_10 l0_10.length c0_10, .slice A0_11 l0_11.length c0_11, .string a0_12] 39 (0, 0)) (by refine blk_far ?_ NB263_294.out _; refine blk_far ?_ NB263_294.out _; refine blk_far ?_ NB263_294.out _; refine blk_far ?_ NB263_294.out _; refine blk_far ?_ NB263_294.out _; refine blk_far ?_ NB263_293.out _; refine blk_far ?_ NB263_293.out _; refine blk_far ?_ NB263_293.out _; refine blk_far ?_ NB263_293.out _; refine blk_far ?_ NB263_293.out _; exact BK263.out) hb); have n11_ := Aside0.mk (blk_below (g := gb293) (o := .cells #[.slice Ao22 t265.length co22, .slice Ao26 t268.length co26, .slice Ao27 t271.length co27, .slice Ao28 t274.length co28, .slice Ao29 t277.length co29] 27 (0, 0)) (by refine blk_far ?_ NB293_294.out _; refine blk_far ?_ NB293_294.out _; refine blk_far ?_ NB293_294.out _; refine blk_far ?_ NB293_294.out _; refine blk_far ?_ NB293_294.out _; refine blk_put (cs := #[.slice Ao22 t265.length co22, .slice Ao26 t268.length co26, .slice Ao27 t271.length co27, .slice Ao28 t274.length co28, .slice none 0 0]) ?_ 4 _ rfl; refine blk_put (cs := #[.slice Ao22 t265.length co22, .slice Ao26 t268.length co26, .slice Ao27 t271.length co27, .slice none 0 0, .slice none 0 0]) ?_ 3 _ rfl; refine blk_put (cs := #[.slice Ao22 t265.length co22, .slice Ao26 t268.length co26, .slice none 0 0, .slice none 0 0, .slice none 0 0]) ?_ 2 _ rfl; refine blk_put (cs := #[.slice Ao22 t265.length co22, .slice none 0 0, .slice none 0 0, .slice none 0 0, .slice none 0 0]) ?_ 1 _ rfl; refine blk_put (cs := #[.slice none 0 0, .slice none 0 0, .slice none 0 0, .slice none 0 0, .slice none 0 0]) ?_ 0 _ rfl; exact BK293.out) hb); have n12_ := Aside0.mk (blk_below (g := gb294) (o := .cells #[.int .i64 t280, .slice Ao32 t281.length co32, .slice Ao33 t284.length co33, .slice Ao34 t287.length co34, .slice Ao35 t290.length co35] 35 (0, 0)) (by refine blk_put (cs := #[.int .i64 t280, .slice Ao32 t281.length co32, .slice Ao33 t284.length co33, .slice Ao34 t287.length co34, .slice none 0 0]) ?_ 4 _ rfl; refine blk_put (cs := #[.int .i64 t280, .slice Ao32 t281.length co32, .slice Ao33 t284.length co33, .slice none 0 0, .slice none 0 0]) ?_ 3 _ rfl; refine blk_put (cs := #[.int .i64 t280, .slice Ao32 t281.length co32, .slice none 0 0, .slice none 0 0, .slice none 0 0]) ?_ 2 _ rfl; refine blk_put (cs := #[.int .i64 t280, .slice none 0 0, .slice none 0 0, .slice none 0 0, .slice none 0 0]) ?_ 1 _ rfl; refine blk_put (cs := #[.int .i64 0, .slice none 0 0, .slice none 0 0, .slice none 0 0, .slice none 0 0]) ?_ 0 _ rfl; refine blk_far ?_ NB294_293.out _; refine blk_far ?_ NB294_293.out _; refine blk_far ?_ NB294_293.out _; refine blk_far ?_ NB294_293.out _; refine blk_far ?_ NB294_293.out _; exact BK294.out) hb); have n13_ := Aside0.mk (below_step (by repeat (first | (with_reducible first | exact HB.out | refine below_set ?_ GE293.out | refine below_set ?_ GE294.out))) hb); clear HO267; clear HO270; clear HO273; clear HO276; clear HO279; clear HO283; clear HO286; clear HO289; clear HO292; clear BK263; clear BK293; clear BK294; clear HB; have HO267 := n0_; have HO270 := n1_; have HO273 := n2_; have HO276 := n3_; have HO279 := n4_; have HO283 := n5_; have HO286 := n6_; have HO289 := n7_; have HO292 := n8_; have HO297 := n9_; have BK263 := n10_; have BK293 := n11_; have BK294 := n12_; have HB := n13_; clear n0_ n1_ n2_ n3_ n4_ n5_ n6_ n7_ n8_ n9_ n10_ n11_ n12_ n13_; (try clear hb); (try clear hb2); (try clear hk); (try clear hi); (try clear ho0); have hcz38_0 : w37.cell? ⟨gb263, 0, none⟩ = some (.slice A0_0 l0_0.length c0_0) := (blk_cell BK263.out 0).trans rfl; have hcz38_1 : w37.cell? ⟨gb263, 1, none⟩ = some (.slice A0_1 l0_1.length c0_1) := (blk_cell BK263.out 1).trans rfl; have hcz38_2 : w37.cell? ⟨gb263, 2, none⟩ = some (.slice A0_2 l0_2.length c0_2) := (blk_cell BK263.out 2).trans rfl; have hcz38_3 : w37.cell? ⟨gb263, 3, none⟩ = some (.slice A0_3 l0_3.length c0_3) := (blk_cell BK263.out 3).trans rfl; have hcz38_4 : w37.cell? ⟨gb263, 4, none⟩ = some (.slice A0_4 l0_4.length c0_4) := (blk_cell BK263.out 4).trans rfl; have hcz38_5 : w37.cell? ⟨gb263, 5, none⟩ = some (.int .i64 a0_5) := (blk_cell BK263.out 5).trans rfl; have hcz38_6 : w37.cell? ⟨gb263, 6, none⟩ = some (.slice A0_6 l0_6.length c0_6) := (blk_cell BK263.out 6).trans rfl; have hcz38_7 : w37.cell? ⟨gb263, 7, none⟩ = some (.slice A0_7 l0_7.length c0_7) := (blk_cell BK263.out 7).trans rfl; have hcz38_8 : w37.cell? ⟨gb263, 8, none⟩ = some (.slice A0_8 l0_8.length c0_8) := (blk_cell BK263.out 8).trans rfl; have hcz38_9 : w37.cell? ⟨gb263, 9, none⟩ = some (.slice A0_9 l0_9.length c0_9) := (blk_cell BK263.out 9).trans rfl; have hcz38_10 : w37.cell? ⟨gb263, 10, none⟩ = some (.slice A0_10 l0_10.length c0_10) := (blk_cell BK263.out 10).trans rfl; have hcz38_11 : w37.cell? ⟨gb263, 11, none⟩ = some (.slice A0_11 l0_11.length c0_11) := (blk_cell BK263.out 11).trans rfl; have hcz38_12 : w37.cell? ⟨gb263, 12, none⟩ = some (.string a0_12) := (blk_cell BK263.out 12).trans rfl; have hfz38_0 := blk_frozen BK263.out 0; have hfz38_1 := blk_frozen BK263.out 1; have hfz38_2 := blk_frozen BK263.out 2; have hfz38_3 := blk_frozen BK263.out 3; have hfz38_4 := blk_frozen BK263.out 4; have hfz38_5 := blk_frozen BK263.out 5; have hfz38_6 := blk_frozen BK263.out 6; have hfz38_7 := blk_frozen BK263.out 7; have hfz38_8 := blk_frozen BK263.out 8; have hfz38_9 := blk_frozen BK263.out 9; have hfz38_10 := blk_frozen BK263.out 10; have hfz38_11 := blk_frozen BK263.out 11; have hfz38_12 := blk_frozen BK263.out 12; have hcz39_0 : w37.cell? ⟨gb293, 0, none⟩ = some (.slice Ao22 t265.length co22) := (blk_cell BK293.out 0).trans rfl; have hcz39_1 : w37.cell? ⟨gb293, 1, none⟩ = some (.slice Ao26 t268.length co26) := (blk_cell BK293.out 1).trans rfl; have hcz39_2 : w37.cell? ⟨gb293, 2, none⟩ = some (.slice Ao27 t271.length co27) := (blk_cell BK293.out 2).trans rfl; have hcz39_3 : w37.cell? ⟨gb293, 3, none⟩ = some (.slice Ao28 t274.length co28) := (blk_cell BK293.out 3).trans rfl; have hcz39_4 : w37.cell? ⟨gb293, 4, none⟩ = some (.slice Ao29 t277.length co29) := (blk_cell BK293.out 4).trans rfl; have hfz39_0 := blk_frozen BK293.out 0; have hfz39_1 := blk_frozen BK293.out 1; have hfz39_2 := blk_frozen BK293.out 2; have hfz39_3 := blk_frozen BK293.out 3; have hfz39_4 := blk_frozen BK293.out 4) | ((with_reducible refine gate_callee (f := 9) rfl ?_); refine goesL_ (some 31) rfl rfl Tryz.func9 (by kernel_rfl) rfl #[.agg #[.slice Ao22 t265.length co22, .slice Ao26 t268.length co26, .slice Ao27 t271.length co27, .slice Ao28 t274.length co28, .slice Ao29 t277.length co29], .string (a0_12.extract 0 ((ji5) : Int).toNat)] rfl (by (try simp only [List.map_toArray, List.map_cons, List.map_nil]); first | rfl) ?_; (with_reducible refine (lift_Back.calls _ _ t265 _ _ t268 _ _ t271 _ _ t274 _ _ t277 (a0_12.extract 0 ((ji5) : Int).toNat) t298 t301 _ (by first | (refine tab_below HG.out ?_; repeat (first | (with_reducible first | exact HB.out)))) ?side1 ?side2 ?side3 ?side4 ?side5 ?side6 ?side7 ?side8 ?side9 ?side10 A8.out).mono ?_); (case side1 => repeat (first | exact (Kd.R_reads' HO267.out).2.2)); (case side2 => exact (Kd.R_reads' HO267.out).2.1); (case side3 => repeat (first | exact (Kd.R_reads' HO270.out).2.2)); (case side4 => exact (Kd.R_reads' HO270.out).2.1); (case side5 => repeat (first | exact (Kd.R_reads' HO273.out).2.2)); (case side6 => exact (Kd.R_reads' HO273.out).2.1); (case side7 => repeat (first | exact (Kd.R_reads' HO276.out).2.2)); (case side8 => exact (Kd.R_reads' HO276.out).2.1); (case side9 => repeat (first | exact (Kd.R_reads' HO279.out).2.2)); (case side10 => exact (Kd.R_reads' HO279.out).2.1); rintro e w40 ⟨v299, rfl, ho0, hb⟩; refine ⟨_, rfl, ?_⟩; have n0_ := Aside0.mk (Kd.R_below HO267.out hb); have n1_ := Aside0.mk (Kd.R_below HO270.out hb); have n2_ := Aside0.mk (Kd.R_below HO273.out hb); have n3_ := Aside0.mk (Kd.R_below HO276.out hb); have n4_ := Aside0.mk (Kd.R_below HO279.out hb); have n5_ := Aside0.mk (Kd.R_below HO283.out hb); have n6_ := Aside0.mk (Kd.R_below HO286.out hb); have n7_ := Aside0.mk (Kd.R_below HO289.out hb); have n8_ := Aside0.mk (Kd.R_below HO292.out hb); have n9_ := Aside0.mk (Kd.S_elder' HO297.out (Kd.S_base ho0) hb); have n10_ := Aside0.mk (Kd.S_lower (Kd.S_new' ho0 (Kd.S_lt HO297.out)) (below_size HB.out)); have n11_ := Aside0.mk (blk_below BK263.out hb); have n12_ := Aside0.mk (blk_below BK293.out hb); have n13_ := Aside0.mk (blk_below BK294.out hb); have n14_ := Aside0.mk (below_step HB.out hb); clear HO267; clear HO270; clear HO273; clear HO276; clear HO279; clear HO283; clear HO286; clear HO289; clear HO292; clear HO297; clear BK263; clear BK293; clear BK294; clear HB; have HO267 := n0_; have HO270 := n1_; have HO273 := n2_; have HO276 := n3_; have HO279 := n4_; have HO283 := n5_; have HO286 := n6_; have HO289 := n7_; have HO292 := n8_; have HO297 := n9_; have HO300 := n10_; have BK263 := n11_; have BK293 := n12_; have BK294 := n13_; have HB := n14_; clear n0_ n1_ n2_ n3_ n4_ n5_ n6_ n7_ n8_ n9_ n10_ n11_ n12_ n13_ n14_; (try clear hb); (try clear hb2); (try clear hk); (try clear hi); (try clear ho0); have hcz41_0 : w40.cell? ⟨gb293, 0, none⟩ = some (.slice Ao22 t265.length co22) := (blk_cell BK293.out 0).trans rfl; have hcz41_1 : w40.cell? ⟨gb293, 1, none⟩ = some (.slice Ao26 t268.length co26) := (blk_cell BK293.out 1).trans rfl; have hcz41_2 : w40.cell? ⟨gb293, 2, none⟩ = some (.slice Ao27 t271.length co27) := (blk_cell BK293.out 2).trans rfl; have hcz41_3 : w40.cell? ⟨gb293, 3, none⟩ = some (.slice Ao28 t274.length co28) := (blk_cell BK293.out 3).trans rfl; have hcz41_4 : w40.cell? ⟨gb293, 4, none⟩ = some (.slice Ao29 t277.length co29) := (blk_cell BK293.out 4).trans rfl; have hfz41_0 := blk_frozen BK293.out 0; have hfz41_1 := blk_frozen BK293.out 1; have hfz41_2 := blk_frozen BK293.out 2; have hfz41_3 := blk_frozen BK293.out 3; have hfz41_4 := blk_frozen BK293.out 4) | ((with_reducible refine gate_callee (f := 10) rfl ?_); refine goesL_ (some 37) rfl rfl Tryz.func10 (by kernel_rfl) rfl #[.agg #[.slice Ao22 t265.length co22, .slice Ao26 t268.length co26, .slice Ao27 t271.length co27, .slice Ao28 t274.length co28, .slice Ao29 t277.length co29], .string (a0_12.extract 0 ((ji5) : Int).toNat)] rfl (by (try simp only [List.map_toArray, List.map_cons, List.map_nil]); first | rfl) ?_; (with_reducible refine (proofmarkref27_Back.calls k _ _ t265 _ _ t268 _ _ t271 _ _ t274 _ _ t277 (a0_12.extract 0 ((ji5) : Int).toNat) t302 t305 _ ?side1 ?side2 ?side3 ?side4 ?side5 ?side6 ?side7 ?side8 ?side9 ?side10 A9.out).mono ?_); (case side1 => repeat (first | exact (Kd.R_reads' HO267.out).2.2)); (case side2 => exact (Kd.R_reads' HO267.out).2.1); (case side3 => repeat (first | exact (Kd.R_reads' HO270.out).2.2)); (case side4 => exact (Kd.R_reads' HO270.out).2.1); (case side5 => repeat (first | exact (Kd.R_reads' HO273.out).2.2)); (case side6 => exact (Kd.R_reads' HO273.out).2.1); (case side7 => repeat (first | exact (Kd.R_reads' HO276.out).2.2)); (case side8 => exact (Kd.R_reads' HO276.out).2.1); (case side9 => repeat (first | exact (Kd.R_reads' HO279.out).2.2)); (case side10 => exact (Kd.R_reads' HO279.out).2.1); rintro e w42 ⟨v303, rfl, ho0, hb⟩; refine ⟨_, rfl, ?_⟩; have n0_ := Aside0.mk (Kd.R_below HO267.out hb); have n1_ := Aside0.mk (Kd.R_below HO270.out hb); have n2_ := Aside0.mk (Kd.R_below HO273.out hb); have n3_ := Aside0.mk (Kd.R_below HO276.out hb); have n4_ := Aside0.mk (Kd.R_below HO279.out hb); have n5_ := Aside0.mk (Kd.R_below HO283.out hb); have n6_ := Aside0.mk (Kd.R_below HO286.out hb); have n7_ := Aside0.mk (Kd.R_below HO289.out hb); have n8_ := Aside0.mk (Kd.R_below HO292.out hb); have n9_ := Aside0.mk (Kd.S_elder' HO297.out (Kd.S_base ho0) hb); have n10_ := Aside0.mk (Kd.S_elder' HO300.out (Kd.S_base ho0) hb); have n11_ := Aside0.mk (Kd.S_lower (Kd.S_new' (Kd.S_new' ho0 (Kd.S_lt HO297.out)) (Kd.S_lt HO300.out)) (below_size HB.out)); have n12_ := Aside0.mk (blk_below BK263.out hb); have n13_ := Aside0.mk (blk_below BK293.out hb); have n14_ := Aside0.mk (blk_below BK294.out hb); have n15_ := Aside0.mk (below_step HB.out hb); clear HO267; clear HO270; clear HO273; clear HO276; clear HO279; clear HO283; clear HO286; clear HO289; clear HO292; clear HO297; clear HO300; clear BK263; clear BK293; clear BK294; clear HB; have HO267 := n0_; have HO270 := n1_; have HO273 := n2_; have HO276 := n3_; have HO279 := n4_; have HO283 := n5_; have HO286 := n6_; have HO289 := n7_; have HO292 := n8_; have HO297 := n9_; have HO300 := n10_; have HO304 := n11_; have BK263 := n12_; have BK293 := n13_; have BK294 := n14_; have HB := n15_; clear n0_ n1_ n2_ n3_ n4_ n5_ n6_ n7_ n8_ n9_ n10_ n11_ n12_ n13_ n14_ n15_; (try clear hb); (try clear hb2); (try clear hk); (try clear hi); (try clear ho0)))
            have n0_ := Aside0.mk (Kd.R_drew HO267.out)
            have n1_ := Aside0.mk (Kd.R_drew HO270.out)
            have n2_ := Aside0.mk (Kd.R_drew HO273.out)
            have n3_ := Aside0.mk (Kd.R_drew HO276.out)
            have n4_ := Aside0.mk (Kd.R_drew HO279.out)
            have n5_ := Aside0.mk (Kd.R_drew HO283.out)
            have n6_ := Aside0.mk (Kd.R_drew HO286.out)
            have n7_ := Aside0.mk (Kd.R_drew HO289.out)
            have n8_ := Aside0.mk (Kd.R_drew HO292.out)
            have n9_ := Aside0.mk (Kd.S_drew HO297.out)
            have n10_ := Aside0.mk (Kd.S_drew HO300.out)
            have n11_ := Aside0.mk (Kd.S_drew HO304.out)
            have n12_ := Aside0.mk (blk_drew BK263.out)
            have n13_ := Aside0.mk (blk_drew BK293.out)
            have n14_ := Aside0.mk (blk_drew BK294.out)
            have n15_ := Aside0.mk (below_drew1 HB.out)
            clear HO267
            clear HO270
            clear HO273
            clear HO276
            clear HO279
            clear HO283
            clear HO286
            clear HO289
            clear HO292
            clear HO297
            clear HO300
            clear HO304
            clear BK263
            clear BK293
            clear BK294
            clear HB
            have HO267 := n0_
            have HO270 := n1_
            have HO273 := n2_
            have HO276 := n3_
            have HO279 := n4_
            have HO283 := n5_
            have HO286 := n6_
            have HO289 := n7_
            have HO292 := n8_
            have HO297 := n9_
            have HO300 := n10_
            have HO304 := n11_
            have BK263 := n12_
            have BK293 := n13_
            have BK294 := n14_
            have HB := n15_
            clear n0_ n1_ n2_ n3_ n4_ n5_ n6_ n7_ n8_ n9_ n10_ n11_ n12_ n13_ n14_ n15_
            obtain ⟨Ao44, co44, eo44⟩ := Kd.S_slice HO297.out
            (first | subst eo44)
            refine start_ (n := 21) (S := fun w' => w'.cell? ⟨gb293, 0, none⟩ = some (.slice Ao22 t265.length co22) ∧ w'.cell? ⟨gb293, 1, none⟩ = some (.slice Ao26 t268.length co26) ∧ w'.cell? ⟨gb293, 2, none⟩ = some (.slice Ao27 t271.length co27) ∧ w'.cell? ⟨gb293, 3, none⟩ = some (.slice Ao28 t274.length co28) ∧ w'.cell? ⟨gb293, 4, none⟩ = some (.slice Ao29 t277.length co29)) (ds := []) #[false, false, false, false, false, false, false, false, false, false, false, false, false, false, false, false, false, false, false, false, false] (by kernel_rfl) rfl rfl ⟨(blk_cell BK293.out 0).trans rfl, (blk_cell BK293.out 1).trans rfl, (blk_cell BK293.out 2).trans rfl, (blk_cell BK293.out 3).trans rfl, (blk_cell BK293.out 4).trans rfl⟩ (fun hHeld => ?_); refine with_tabW proofmarklaw27_LiftTells.tab7 proofmarklaw27_LiftTells.bits7 (fun HT_ HW_ => ?_)
            generalize w42.drew = w43 at HO267 HO270 HO273 HO276 HO279 HO283 HO286 HO289 HO292 HO297 HO300 HO304 BK263 BK293 BK294 HB hHeld ⊢
            refine pure_ (i := 0) (N := some 40) (v := ?_) (a' := ?_) #[true, false, false, false, false, false, false, false, false, false, false, false, false, false, false, false, false, false, false, false, false] rfl rfl (any_of HT_.out (by kernel_rfl)) (fun _ _ _ h => h) (Or.inl ⟨by rfl, ?_⟩) ?_ ?_
            rotate_left
            · intro w'
              go_simp
              with_reducible rfl
            rotate_left
            · simp only [Act.put, List.setIfInBounds_toArray, List.set_cons_zero, List.set_cons_succ, i64_w, i32_w]
              rfl
            refine pure_ (i := 1) (N := some 41) (v := ?_) (a' := ?_) #[true, true, false, false, false, false, false, false, false, false, false, false, false, false, false, false, false, false, false, false, false] rfl rfl (any_of HT_.out (by kernel_rfl)) (fun _ _ _ h => h) (Or.inl ⟨by rfl, ?_⟩) ?_ ?_
            rotate_left
            · intro w'
              go_simp
              with_reducible rfl
            rotate_left
            · simp only [Act.put, List.setIfInBounds_toArray, List.set_cons_zero, List.set_cons_succ, i64_w, i32_w]
              rfl
            refine pure_ (i := 3) (N := some 43) (v := ?_) (a' := ?_) #[true, true, false, true, false, false, false, false, false, false, false, false, false, false, false, false, false, false, false, false, false] rfl rfl (any_of HT_.out (by kernel_rfl)) (fun _ _ _ h => h) (Or.inl ⟨by rfl, ?_⟩) ?_ ?_
            rotate_left
            · intro w'
              go_simp
              with_reducible rfl
            rotate_left
            · simp only [Act.put, List.setIfInBounds_toArray, List.set_cons_zero, List.set_cons_succ, i64_w, i32_w]
              rfl
            refine pure_ (i := 6) (N := some 46) (v := ?_) (a' := ?_) #[true, true, false, true, false, false, true, false, false, false, false, false, false, false, false, false, false, false, false, false, false] rfl rfl (any_of HT_.out (by kernel_rfl)) (fun _ _ _ h => h) (Or.inl ⟨by rfl, ?_⟩) ?_ ?_
            rotate_left
            · intro w'
              go_simp
              with_reducible rfl
            rotate_left
            · simp only [Act.put, List.setIfInBounds_toArray, List.set_cons_zero, List.set_cons_succ, i64_w, i32_w]
              rfl
            refine take_ (i := 2) (N := some 42) (v := ?_) (a' := ?_) #[true, true, true, true, false, false, true, false, false, false, false, false, false, false, false, false, false, false, false, false, false] rfl rfl (take_ofW HT_.out HW_.out (by kernel_rfl)) (fun _ _ _ h => h) (Or.inl ⟨by rfl, ?_⟩) hHeld ?_ ?_
            rotate_left
            · rintro w' ⟨s0, s1, s2, s3, s4⟩
              go_simp
              with_reducible rfl
            rotate_left
            · simp only [Act.put, List.setIfInBounds_toArray, List.set_cons_zero, List.set_cons_succ, i64_w, i32_w]
              rfl
            refine take_ (i := 5) (N := some 45) (v := ?_) (a' := ?_) #[true, true, true, true, false, true, true, false, false, false, false, false, false, false, false, false, false, false, false, false, false] rfl rfl (take_ofW HT_.out HW_.out (by kernel_rfl)) (fun _ _ _ h => h) (Or.inl ⟨by rfl, ?_⟩) hHeld ?_ ?_
            rotate_left
            · rintro w' ⟨s0, s1, s2, s3, s4⟩
              go_simp
              with_reducible rfl
            rotate_left
            · simp only [Act.put, List.setIfInBounds_toArray, List.set_cons_zero, List.set_cons_succ, i64_w, i32_w]
              rfl
            refine one_ (i := 4) (N := some 44) #[true, true, true, true, true, true, true, false, false, false, false, false, false, false, false, false, false, false, false, false, false] rfl rfl (one_of HT_.out (by kernel_rfl)) (by decide) (fun K hK => ?_)
            refine goes_ Tryz.func11 (by kernel_rfl) rfl #[.agg #[.slice Ao22 t265.length co22, .slice Ao26 t268.length co26, .slice Ao27 t271.length co27, .slice Ao28 t274.length co28, .slice Ao29 t277.length co29], .slice Ao44 t295.length co44] (by rfl) rfl rfl (by (try simp only [List.map_toArray, List.map_cons, List.map_nil]); first | rfl) ?_
            with_reducible refine (lift_Trace.calls _ _ t265 _ _ t268 _ _ t271 _ _ t274 _ _ t277 _ _ t295 t306 _ (by first | (refine tab_below HG.out ?_; repeat (first | (with_reducible first | exact HB.out)))) ?side1 ?side2 ?side3 ?side4 ?side5 ?side6 ?side7 ?side8 ?side9 ?side10 ?side11 ?side12 A11.out).mono ?_
            (case side1 => repeat (first | exact (Kd.R_reads' HO267.out).2.2))
            (case side2 => exact (Kd.R_reads' HO267.out).2.1)
            (case side3 => repeat (first | exact (Kd.R_reads' HO270.out).2.2))
            (case side4 => exact (Kd.R_reads' HO270.out).2.1)
            (case side5 => repeat (first | exact (Kd.R_reads' HO273.out).2.2))
            (case side6 => exact (Kd.R_reads' HO273.out).2.1)
            (case side7 => repeat (first | exact (Kd.R_reads' HO276.out).2.2))
            (case side8 => exact (Kd.R_reads' HO276.out).2.1)
            (case side9 => repeat (first | exact (Kd.R_reads' HO279.out).2.2))
            (case side10 => exact (Kd.R_reads' HO279.out).2.1)
            (case side11 => repeat (first | exact (Kd.S_reads' HO297.out).2.2))
            (case side12 => exact (Kd.S_reads' HO297.out).2.1)
            rintro e w45 ⟨rfl, hb⟩
            refine ⟨_, rfl, ?_⟩
            have n0_ := Aside0.mk (Kd.R_below HO267.out hb)
            have n1_ := Aside0.mk (Kd.R_below HO270.out hb)
            have n2_ := Aside0.mk (Kd.R_below HO273.out hb)
            have n3_ := Aside0.mk (Kd.R_below HO276.out hb)
            have n4_ := Aside0.mk (Kd.R_below HO279.out hb)
            have n5_ := Aside0.mk (Kd.R_below HO283.out hb)
            have n6_ := Aside0.mk (Kd.R_below HO286.out hb)
            have n7_ := Aside0.mk (Kd.R_below HO289.out hb)
            have n8_ := Aside0.mk (Kd.R_below HO292.out hb)
            have n9_ := Aside0.mk (Kd.S_below HO297.out hb)
            have n10_ := Aside0.mk (Kd.S_below HO300.out hb)
            have n11_ := Aside0.mk (Kd.S_below HO304.out hb)
            have n12_ := Aside0.mk (blk_below BK263.out hb)
            have n13_ := Aside0.mk (blk_below BK293.out hb)
            have n14_ := Aside0.mk (blk_below BK294.out hb)
            have n15_ := Aside0.mk (below_step HB.out hb)
            clear HO267
            clear HO270
            clear HO273
            clear HO276
            clear HO279
            clear HO283
            clear HO286
            clear HO289
            clear HO292
            clear HO297
            clear HO300
            clear HO304
            clear BK263
            clear BK293
            clear BK294
            clear HB
            have HO267 := n0_
            have HO270 := n1_
            have HO273 := n2_
            have HO276 := n3_
            have HO279 := n4_
            have HO283 := n5_
            have HO286 := n6_
            have HO289 := n7_
            have HO292 := n8_
            have HO297 := n9_
            have HO300 := n10_
            have HO304 := n11_
            have BK263 := n12_
            have BK293 := n13_
            have BK294 := n14_
            have HB := n15_
            clear n0_ n1_ n2_ n3_ n4_ n5_ n6_ n7_ n8_ n9_ n10_ n11_ n12_ n13_ n14_ n15_
            (try clear hb)
            (try clear hb2)
            (try clear hk)
            (try clear hi)
            refine hK.out _ _ ⟨(blk_cell BK293.out 0).trans rfl, (blk_cell BK293.out 1).trans rfl, (blk_cell BK293.out 2).trans rfl, (blk_cell BK293.out 3).trans rfl, (blk_cell BK293.out 4).trans rfl⟩ (fun hHeld => ?_)
            clear hK K
            refine norm_ (a' := ?_) ?_ ?_
            rotate_left
            · show Act.put _ (some 44) _ = _
              simp only [Act.put, List.setIfInBounds_toArray, List.set_cons_zero, List.set_cons_succ, i64_w, i32_w]
              rfl
            refine one_ (i := 7) (N := some 47) #[true, true, true, true, true, true, true, true, false, false, false, false, false, false, false, false, false, false, false, false, false] rfl rfl (one_of HT_.out (by kernel_rfl)) (by decide) (fun K hK => ?_)
            refine goes_ Tryz.func12 (by kernel_rfl) rfl #[.agg #[.slice Ao22 t265.length co22, .slice Ao26 t268.length co26, .slice Ao27 t271.length co27, .slice Ao28 t274.length co28, .slice Ao29 t277.length co29], .slice Ao44 t295.length co44] (by rfl) rfl rfl (by (try simp only [List.map_toArray, List.map_cons, List.map_nil]); first | rfl) ?_
            with_reducible refine (proofmarkref27_Trace.calls _ _ t265 _ _ t268 _ _ t271 _ _ t274 _ _ t277 _ _ t295 t307 _ ?side1 ?side2 ?side3 ?side4 ?side5 ?side6 ?side7 ?side8 ?side9 ?side10 ?side11 ?side12 A12.out).mono ?_
            (case side1 => repeat (first | exact (Kd.R_reads' HO267.out).2.2))
            (case side2 => exact (Kd.R_reads' HO267.out).2.1)
            (case side3 => repeat (first | exact (Kd.R_reads' HO270.out).2.2))
            (case side4 => exact (Kd.R_reads' HO270.out).2.1)
            (case side5 => repeat (first | exact (Kd.R_reads' HO273.out).2.2))
            (case side6 => exact (Kd.R_reads' HO273.out).2.1)
            (case side7 => repeat (first | exact (Kd.R_reads' HO276.out).2.2))
            (case side8 => exact (Kd.R_reads' HO276.out).2.1)
            (case side9 => repeat (first | exact (Kd.R_reads' HO279.out).2.2))
            (case side10 => exact (Kd.R_reads' HO279.out).2.1)
            (case side11 => repeat (first | exact (Kd.S_reads' HO297.out).2.2))
            (case side12 => exact (Kd.S_reads' HO297.out).2.1)
            rintro e w46 ⟨rfl, hb⟩
            refine ⟨_, rfl, ?_⟩
            have n0_ := Aside0.mk (Kd.R_below HO267.out hb)
            have n1_ := Aside0.mk (Kd.R_below HO270.out hb)
            have n2_ := Aside0.mk (Kd.R_below HO273.out hb)
            have n3_ := Aside0.mk (Kd.R_below HO276.out hb)
            have n4_ := Aside0.mk (Kd.R_below HO279.out hb)
            have n5_ := Aside0.mk (Kd.R_below HO283.out hb)
            have n6_ := Aside0.mk (Kd.R_below HO286.out hb)
            have n7_ := Aside0.mk (Kd.R_below HO289.out hb)
            have n8_ := Aside0.mk (Kd.R_below HO292.out hb)
            have n9_ := Aside0.mk (Kd.S_below HO297.out hb)
            have n10_ := Aside0.mk (Kd.S_below HO300.out hb)
            have n11_ := Aside0.mk (Kd.S_below HO304.out hb)
            have n12_ := Aside0.mk (blk_below BK263.out hb)
            have n13_ := Aside0.mk (blk_below BK293.out hb)
            have n14_ := Aside0.mk (blk_below BK294.out hb)
            have n15_ := Aside0.mk (below_step HB.out hb)
            clear HO267
            clear HO270
            clear HO273
            clear HO276
            clear HO279
            clear HO283
            clear HO286
            clear HO289
            clear HO292
            clear HO297
            clear HO300
            clear HO304
            clear BK263
            clear BK293
            clear BK294
            clear HB
            have HO267 := n0_
            have HO270 := n1_
            have HO273 := n2_
            have HO276 := n3_
            have HO279 := n4_
            have HO283 := n5_
            have HO286 := n6_
            have HO289 := n7_
            have HO292 := n8_
            have HO297 := n9_
            have HO300 := n10_
            have HO304 := n11_
            have BK263 := n12_
            have BK293 := n13_
            have BK294 := n14_
            have HB := n15_
            clear n0_ n1_ n2_ n3_ n4_ n5_ n6_ n7_ n8_ n9_ n10_ n11_ n12_ n13_ n14_ n15_
            (try clear hb)
            (try clear hb2)
            (try clear hk)
            (try clear hi)
            obtain ⟨Ao47, co47, eo47⟩ := Kd.S_slice HO300.out
            (first | subst eo47)
            obtain ⟨Ao48, co48, eo48⟩ := Kd.S_slice HO304.out
            (first | subst eo48)
            refine hK.out _ _ ⟨(blk_cell BK293.out 0).trans rfl, (blk_cell BK293.out 1).trans rfl, (blk_cell BK293.out 2).trans rfl, (blk_cell BK293.out 3).trans rfl, (blk_cell BK293.out 4).trans rfl⟩ (fun hHeld => ?_)
            clear hK K
            refine norm_ (a' := ?_) ?_ ?_
            rotate_left
            · show Act.put _ (some 47) _ = _
              simp only [Act.put, List.setIfInBounds_toArray, List.set_cons_zero, List.set_cons_succ, i64_w, i32_w]
              rfl
            refine pure_ (i := 8) (N := some 48) (v := ?_) (a' := ?_) #[true, true, true, true, true, true, true, true, true, false, false, false, false, false, false, false, false, false, false, false, false] rfl rfl (any_of HT_.out (by kernel_rfl)) (fun _ _ _ h => h) (Or.inl ⟨by rfl, ?_⟩) ?_ ?_
            rotate_left
            · intro w'
              go_simp
              with_reducible rfl
            rotate_left
            · simp only [Act.put, List.setIfInBounds_toArray, List.set_cons_zero, List.set_cons_succ, i64_w, i32_w]
              rfl
            refine pure_ (i := 9) (N := some 49) (v := ?_) (a' := ?_) #[true, true, true, true, true, true, true, true, true, true, false, false, false, false, false, false, false, false, false, false, false] rfl rfl (any_of HT_.out (by kernel_rfl)) (fun _ _ _ h => h) (Or.inl ⟨by rfl, ?_⟩) ?_ ?_
            rotate_left
            · intro w'
              go_simp
              with_reducible rfl
            rotate_left
            · simp only [Act.put, List.setIfInBounds_toArray, List.set_cons_zero, List.set_cons_succ, i64_w, i32_w]
              rfl
            refine pure_ (i := 10) (N := some 50) (v := ?_) (a' := ?_) #[true, true, true, true, true, true, true, true, true, true, true, false, false, false, false, false, false, false, false, false, false] rfl rfl (any_of HT_.out (by kernel_rfl)) (fun _ _ _ h => h) (Or.inl ⟨by rfl, ?_⟩) ?_ ?_
            rotate_left
            · intro w'
              go_simp
              with_reducible rfl
            rotate_left
            · simp only [Act.put, List.setIfInBounds_toArray, List.set_cons_zero, List.set_cons_succ, i64_w, i32_w]
              rfl
            refine pure_ (i := 11) (N := some 51) (v := ?_) (a' := ?_) #[true, true, true, true, true, true, true, true, true, true, true, true, false, false, false, false, false, false, false, false, false] rfl rfl (any_of HT_.out (by kernel_rfl)) (fun _ _ _ h => h) (Or.inl ⟨by rfl, ?_⟩) ?_ ?_
            rotate_left
            · intro w'
              go_simp
              with_reducible rfl
            rotate_left
            · simp only [Act.put, List.setIfInBounds_toArray, List.set_cons_zero, List.set_cons_succ, i64_w, i32_w]
              rfl
            refine pure_ (i := 12) (N := some 52) (v := ?_) (a' := ?_) #[true, true, true, true, true, true, true, true, true, true, true, true, true, false, false, false, false, false, false, false, false] rfl rfl (any_of HT_.out (by kernel_rfl)) (fun _ _ _ h => h) (Or.inl ⟨by rfl, ?_⟩) ?_ ?_
            rotate_left
            · intro w'
              go_simp
              with_reducible rfl
            rotate_left
            · simp only [Act.put, List.setIfInBounds_toArray, List.set_cons_zero, List.set_cons_succ, i64_w, i32_w]
              rfl
            refine pure_ (i := 13) (N := some 53) (v := ?_) (a' := ?_) #[true, true, true, true, true, true, true, true, true, true, true, true, true, true, false, false, false, false, false, false, false] rfl rfl (any_of HT_.out (by kernel_rfl)) (fun _ _ _ h => h) (Or.inl ⟨by rfl, ?_⟩) ?_ ?_
            rotate_left
            · intro w'
              go_simp
              with_reducible rfl
            rotate_left
            · simp only [Act.put, List.setIfInBounds_toArray, List.set_cons_zero, List.set_cons_succ, i64_w, i32_w]
              rfl
            refine pure_ (i := 14) (N := some 54) (v := ?_) (a' := ?_) #[true, true, true, true, true, true, true, true, true, true, true, true, true, true, true, false, false, false, false, false, false] rfl rfl (any_of HT_.out (by kernel_rfl)) (fun _ _ _ h => h) (Or.inl ⟨by rfl, ?_⟩) ?_ ?_
            rotate_left
            · intro w'
              go_simp
              with_reducible rfl
            rotate_left
            · simp only [Act.put, List.setIfInBounds_toArray, List.set_cons_zero, List.set_cons_succ, i64_w, i32_w]
              rfl
            refine pure_ (i := 15) (N := some 55) (v := ?_) (a' := ?_) #[true, true, true, true, true, true, true, true, true, true, true, true, true, true, true, true, false, false, false, false, false] rfl rfl (any_of HT_.out (by kernel_rfl)) (fun _ _ _ h => h) (Or.inl ⟨by rfl, ?_⟩) ?_ ?_
            rotate_left
            · intro w'
              go_simp
              with_reducible rfl
            rotate_left
            · simp only [Act.put, List.setIfInBounds_toArray, List.set_cons_zero, List.set_cons_succ, i64_w, i32_w]
              rfl
            refine pure_ (i := 16) (N := some 56) (v := ?_) (a' := ?_) #[true, true, true, true, true, true, true, true, true, true, true, true, true, true, true, true, true, false, false, false, false] rfl rfl (any_of HT_.out (by kernel_rfl)) (fun _ _ _ h => h) (Or.inl ⟨by rfl, ?_⟩) ?_ ?_
            rotate_left
            · intro w'
              go_simp
              with_reducible rfl
            rotate_left
            · simp only [Act.put, List.setIfInBounds_toArray, List.set_cons_zero, List.set_cons_succ, i64_w, i32_w]
              rfl
            refine pure_ (i := 17) (N := some 57) (v := ?_) (a' := ?_) #[true, true, true, true, true, true, true, true, true, true, true, true, true, true, true, true, true, true, false, false, false] rfl rfl (any_of HT_.out (by kernel_rfl)) (fun _ _ _ h => h) (Or.inl ⟨by rfl, ?_⟩) ?_ ?_
            rotate_left
            · intro w'
              go_simp
              with_reducible rfl
            rotate_left
            · simp only [Act.put, List.setIfInBounds_toArray, List.set_cons_zero, List.set_cons_succ, i64_w, i32_w]
              rfl
            refine one_ (i := 18) (N := some 58) #[true, true, true, true, true, true, true, true, true, true, true, true, true, true, true, true, true, true, true, false, false] rfl rfl (one_of HT_.out (by kernel_rfl)) (by decide) (fun K hK => ?_)
            refine goes_ Tryz.func13 (by kernel_rfl) rfl #[.slice Ao47 t298.length co47, .slice Ao48 t302.length co48] (by rfl) rfl rfl (by (try simp only [List.map_toArray, List.map_cons, List.map_nil]); first | rfl) ?_
            with_reducible refine (proofmarkref27_SameRows.calls k _ _ t298 _ _ t302 t308 _ ?side1 ?side2 ?side3 ?side4 A15.out).mono ?_
            (case side1 => repeat (first | exact (Kd.S_reads' HO300.out).2.2))
            (case side2 => exact (Kd.S_reads' HO300.out).2.1)
            (case side3 => repeat (first | exact (Kd.S_reads' HO304.out).2.2))
            (case side4 => exact (Kd.S_reads' HO304.out).2.1)
            rintro e w' ⟨rfl, ⟨nd, rfl⟩⟩
            refine ⟨_, rfl, ?_⟩
            refine hK.out _ _ ⟨(blk_cell BK293.out 0).trans rfl, (blk_cell BK293.out 1).trans rfl, (blk_cell BK293.out 2).trans rfl, (blk_cell BK293.out 3).trans rfl, (blk_cell BK293.out 4).trans rfl⟩ (fun hHeld => ?_)
            clear hK K
            refine norm_ (a' := ?_) ?_ ?_
            rotate_left
            · show Act.put _ (some 58) _ = _
              simp only [Act.put, List.setIfInBounds_toArray, List.set_cons_zero, List.set_cons_succ, i64_w, i32_w]
              rfl
            refine pure_ (i := 19) (N := some 59) (v := ?_) (a' := ?_) #[true, true, true, true, true, true, true, true, true, true, true, true, true, true, true, true, true, true, true, true, false] rfl rfl (any_of HT_.out (by kernel_rfl)) (fun _ _ _ h => h) (Or.inl ⟨by rfl, ?_⟩) ?_ ?_
            rotate_left
            · intro w'
              go_simp
              with_reducible rfl
            rotate_left
            · simp only [Act.put, List.setIfInBounds_toArray, List.set_cons_zero, List.set_cons_succ, i64_w, i32_w]
              rfl
            refine pure_ (i := 20) (N := some 2) (v := ?_) (a' := ?_) #[true, true, true, true, true, true, true, true, true, true, true, true, true, true, true, true, true, true, true, true, true] rfl rfl (any_of HT_.out (by kernel_rfl)) (fun _ _ _ h => h) (Or.inl ⟨by rfl, ?_⟩) ?_ ?_
            rotate_left
            · intro w'
              go_simp
              with_reducible rfl
            rotate_left
            · simp only [Act.put, List.setIfInBounds_toArray, List.set_cons_zero, List.set_cons_succ, i64_w, i32_w]
              rfl
            refine done_ (done_of HT_.out (by kernel_rfl)) ?_
            try go_wp2
            go_ret
            exact ⟨by first | rfl, by repeat (first | (with_reducible first | exact HB.out | apply pw_below_drewN))⟩
          · rw [if_neg c14] at H; exact absurd (Option.some.inj H) (by rw [HRT.out]; decide)
        · rw [if_neg c13] at H; exact absurd (Option.some.inj H) (by rw [HRT.out]; decide)
      · replace c10 := Bool.eq_false_iff.mpr c10
        subst c10
        have H1 : (some false) = some r := by rw [if_neg (show ¬ (false = true) by decide)] at H; exact H
        exact absurd (Option.some.inj H1) (by rw [HRT.out]; decide)
    · rw [if_neg c7] at H
      exact absurd H (by simp)
  · rw [if_neg c6] at H
    exact absurd H (by simp)


end Go.Proofs.YtmfekngjhiofaaaGreatDoor.Q
