-- Written by the session's own programs (wip/tools/ownprint.py, prune.py) for this claim: one function of the translation, the ways on which it answers true.
import Derived.Test.YtmfekngjhiofaaaDoorQx0
import Derived.Test.YtmfekngjhiofaaaDoorHHeadL
import Derived.Test.YtmfekngjhiofaaaDoorQx12
import Derived.Test.YtmfekngjhiofaaaDoorQx27
import Derived.Test.YtmfekngjhiofaaaDoorQx28
import Derived.Test.YtmfekngjhiofaaaDoorHBack
import Derived.Test.YtmfekngjhiofaaaDoorHLits
import Derived.Test.YtmfekngjhiofaaaDoorHTab
namespace Go.Proofs.YtmfekngjhiofaaaDoor.Q
open Go.RowKit Go.Proofs.YtmfekngjhiofaaaDoorW.PrintWords Go.Proofs.YtmfekngjhiofaaaDoorW.PrintLast Go.Proofs.YtmfekngjhiofaaaDoorW.PrintMore
attribute [local go_sem] max2_int min2_int max_two min_two max_three min_three max_four min_four   -- for this text's walks alone
set_option linter.unusedVariables false
set_option linter.unusedSimpArgs false

/-! ### proofmarklaw27_LiftLines: function 11 -/
mutual
def proofmarklaw27_LiftLines.j0 : Nat → Int → Bool → List (List Int) → ByteArray → Bool → List (S96) → List (S111) → List (S94) → List (S73) → List (S111) → Option (Bool)
  | 0, _, _, _, _, _, _, _, _, _, _ => none
  | k + 1, x1, x5, x8, x9, x38, x219000, x219001, x219002, x219003, x219004 => if x38 = true then (some x5) else (if 0 ≤ x1 then (if x1 ≤ (x8.length : Int) then ((lift_Trace.f x219000 x219001 x219002 x219003 x219004 (x8.take (x1 : Int).toNat)).bind fun t228 => (if (t228.size : Int) > (x9.size : Int) then (proofmarklaw27_LiftLines.j1 k x1 x5 x8 x9 t228 true x219000 x219001 x219002 x219003 x219004) else (if 0 ≤ (t228.size : Int) then (if (t228.size : Int) ≤ (x9.size : Int) then (proofmarklaw27_LiftLines.j1 k x1 x5 x8 x9 t228 ((x9.extract 0 ((t228.size : Int) : Int).toNat).toList != t228.toList) x219000 x219001 x219002 x219003 x219004) else (none)) else (none)))) else (none)) else (none))
def proofmarklaw27_LiftLines.j1 : Nat → Int → Bool → List (List Int) → ByteArray → ByteArray → Bool → List (S96) → List (S111) → List (S94) → List (S73) → List (S111) → Option (Bool)
  | 0, _, _, _, _, _, _, _, _, _, _, _ => none
  | k + 1, x1, x5, x8, x9, x10, x57, x219000, x219001, x219002, x219003, x219004 => if x57 = true then (some false) else (if 0 ≤ (x10.size : Int) then (if (x10.size : Int) ≤ (x9.size : Int) then ((lift_Back.f x219000 x219001 x219002 x219003 x219004 (x9.extract 0 ((x10.size : Int) : Int).toNat)).bind fun bt229 => (proofmarklaw27_LiftLines.l0 k x1 x5 x8 x9 bt229.1 bt229.2 0 0)) else (none)) else (none))
def proofmarklaw27_LiftLines.l0 : Nat → Int → Bool → List (List Int) → ByteArray → List (List Int) → Bool → Int → Int → Option (Bool)
  | 0, _, _, _, _, _, _, _, _ => none
  | k + 1, x1, x5, x8, x9, x11, x12, x13, x14 => if x14 < (x9.size : Int) then (if 0 ≤ x14 then (if (bt x9 x14) = 10 then (proofmarklaw27_LiftLines.l0 k x1 x5 x8 x9 x11 x12 (wrap64 (x13 + 1)) (wrap64 (x14 + 1))) else (proofmarklaw27_LiftLines.l0 k x1 x5 x8 x9 x11 x12 x13 (wrap64 (x14 + 1)))) else (none)) else (if x5 = true then (if x12 = true then (if 0 ≤ x1 then (if x1 ≤ (x8.length : Int) then ((proofmarkref27_SameRows.f k x11 (x8.take (x1 : Int).toNat)).bind fun t237 => (if t237 = true then (some (x13 == (x8.length : Int))) else (some false))) else (none)) else (none)) else (some false)) else (some false))
end
def proofmarklaw27_LiftLines.f (k : Nat) (l0_0 : List (S96)) (l0_1 : List (S111)) (l0_2 : List (S94)) (l0_3 : List (S73)) (l0_4 : List (S111)) (a0_5 : Int) (l0_6 : List (S201)) (l0_7 : List (S202)) (l0_8 : List (S98)) (l0_9 : List (S204)) (l0_10 : List (List Int)) (l0_11 : List Int) (a0_12 : ByteArray) (a1 : Int) : Option (Bool) := (proofmarklaw27_head.f k).bind fun t189 => ((proofmarklaw27_fit.f k l0_0 l0_1 l0_2 l0_3 l0_4 a0_5 l0_6 l0_7 l0_8 l0_9 l0_10 l0_11 a0_12).bind fun bt190 => ((proofmarkref27_Rows.f k l0_10).bind fun t220 => ((lift_Trace.f bt190.1 bt190.2.1 bt190.2.2.1 bt190.2.2.2.1 bt190.2.2.2.2.1 t220).bind fun t223 => (if t223.toList = ([] : List UInt8) then (proofmarklaw27_LiftLines.j0 k a1 t189 t220 t223 true bt190.1 bt190.2.1 bt190.2.2.1 bt190.2.2.2.1 bt190.2.2.2.2.1) else (if a1 < 0 then (proofmarklaw27_LiftLines.j0 k a1 t189 t220 t223 true bt190.1 bt190.2.1 bt190.2.2.1 bt190.2.2.2.1 bt190.2.2.2.2.1) else (proofmarklaw27_LiftLines.j0 k a1 t189 t220 t223 (decide (a1 > (t220.length : Int))) bt190.1 bt190.2.1 bt190.2.2.1 bt190.2.2.2.1 bt190.2.2.2.2.1))))))
theorem proofmarklaw27_LiftLines.mono_l : ∀ k, (∀ y0 y1 y2 y3 y4 y5 y6 y7 y8 y9, LeO (proofmarklaw27_LiftLines.j0 k y0 y1 y2 y3 y4 y5 y6 y7 y8 y9) (proofmarklaw27_LiftLines.j0 (k + 1) y0 y1 y2 y3 y4 y5 y6 y7 y8 y9)) ∧ (∀ y0 y1 y2 y3 y4 y5 y6 y7 y8 y9 y10, LeO (proofmarklaw27_LiftLines.j1 k y0 y1 y2 y3 y4 y5 y6 y7 y8 y9 y10) (proofmarklaw27_LiftLines.j1 (k + 1) y0 y1 y2 y3 y4 y5 y6 y7 y8 y9 y10)) ∧ (∀ y0 y1 y2 y3 y4 y5 y6 y7, LeO (proofmarklaw27_LiftLines.l0 k y0 y1 y2 y3 y4 y5 y6 y7) (proofmarklaw27_LiftLines.l0 (k + 1) y0 y1 y2 y3 y4 y5 y6 y7))
  | 0 => ⟨fun _ _ _ _ _ _ _ _ _ _ r h => by simp [proofmarklaw27_LiftLines.j0] at h, fun _ _ _ _ _ _ _ _ _ _ _ r h => by simp [proofmarklaw27_LiftLines.j1] at h, fun _ _ _ _ _ _ _ _ r h => by simp [proofmarklaw27_LiftLines.l0] at h⟩
  | k + 1 => by
    obtain ⟨ih0, ih1, ih2⟩ := proofmarklaw27_LiftLines.mono_l k
    refine ⟨?_, ?_, ?_⟩
    · intro y0 y1 y2 y3 y4 y5 y6 y7 y8 y9
      unfold proofmarklaw27_LiftLines.j0
      repeat' first
      | (with_reducible exact ih0 _ _ _ _ _ _ _ _ _ _)
      | (with_reducible exact ih1 _ _ _ _ _ _ _ _ _ _ _)
      | (with_reducible exact ih2 _ _ _ _ _ _ _ _)
      | (with_reducible exact proofmarklaw27_fit.mono _ _ _ _ _ _ _ _ _ _ _ _ _ _)
      | (with_reducible exact proofmarklaw27_head.mono _)
      | (with_reducible exact proofmarkref27_Rows.mono _ _)
      | (with_reducible exact proofmarkref27_SameRows.mono _ _ _)
      | (with_reducible exact LeO.refl _)
      | (with_reducible exact LeO.none _)
      | (with_reducible refine LeO.ite ?_ ?_)
      | (with_reducible refine LeO.bind ?_ (fun _ => ?_))
      | exact ih0 _ _ _ _ _ _ _ _ _ _
      | exact ih1 _ _ _ _ _ _ _ _ _ _ _
      | exact ih2 _ _ _ _ _ _ _ _
      | exact proofmarklaw27_fit.mono _ _ _ _ _ _ _ _ _ _ _ _ _ _
      | exact proofmarklaw27_head.mono _
      | exact proofmarkref27_Rows.mono _ _
      | exact proofmarkref27_SameRows.mono _ _ _
      | exact LeO.none _
      | refine LeO.ite ?_ ?_
      | refine LeO.bind ?_ (fun _ => ?_)
    · intro y0 y1 y2 y3 y4 y5 y6 y7 y8 y9 y10
      unfold proofmarklaw27_LiftLines.j1
      repeat' first
      | (with_reducible exact ih0 _ _ _ _ _ _ _ _ _ _)
      | (with_reducible exact ih1 _ _ _ _ _ _ _ _ _ _ _)
      | (with_reducible exact ih2 _ _ _ _ _ _ _ _)
      | (with_reducible exact proofmarklaw27_fit.mono _ _ _ _ _ _ _ _ _ _ _ _ _ _)
      | (with_reducible exact proofmarklaw27_head.mono _)
      | (with_reducible exact proofmarkref27_Rows.mono _ _)
      | (with_reducible exact proofmarkref27_SameRows.mono _ _ _)
      | (with_reducible exact LeO.refl _)
      | (with_reducible exact LeO.none _)
      | (with_reducible refine LeO.ite ?_ ?_)
      | (with_reducible refine LeO.bind ?_ (fun _ => ?_))
      | exact ih0 _ _ _ _ _ _ _ _ _ _
      | exact ih1 _ _ _ _ _ _ _ _ _ _ _
      | exact ih2 _ _ _ _ _ _ _ _
      | exact proofmarklaw27_fit.mono _ _ _ _ _ _ _ _ _ _ _ _ _ _
      | exact proofmarklaw27_head.mono _
      | exact proofmarkref27_Rows.mono _ _
      | exact proofmarkref27_SameRows.mono _ _ _
      | exact LeO.none _
      | refine LeO.ite ?_ ?_
      | refine LeO.bind ?_ (fun _ => ?_)
    · intro y0 y1 y2 y3 y4 y5 y6 y7
      unfold proofmarklaw27_LiftLines.l0
      repeat' first
      | (with_reducible exact ih0 _ _ _ _ _ _ _ _ _ _)
      | (with_reducible exact ih1 _ _ _ _ _ _ _ _ _ _ _)
      | (with_reducible exact ih2 _ _ _ _ _ _ _ _)
      | (with_reducible exact proofmarklaw27_fit.mono _ _ _ _ _ _ _ _ _ _ _ _ _ _)
      | (with_reducible exact proofmarklaw27_head.mono _)
      | (with_reducible exact proofmarkref27_Rows.mono _ _)
      | (with_reducible exact proofmarkref27_SameRows.mono _ _ _)
      | (with_reducible exact LeO.refl _)
      | (with_reducible exact LeO.none _)
      | (with_reducible refine LeO.ite ?_ ?_)
      | (with_reducible refine LeO.bind ?_ (fun _ => ?_))
      | exact ih0 _ _ _ _ _ _ _ _ _ _
      | exact ih1 _ _ _ _ _ _ _ _ _ _ _
      | exact ih2 _ _ _ _ _ _ _ _
      | exact proofmarklaw27_fit.mono _ _ _ _ _ _ _ _ _ _ _ _ _ _
      | exact proofmarklaw27_head.mono _
      | exact proofmarkref27_Rows.mono _ _
      | exact proofmarkref27_SameRows.mono _ _ _
      | exact LeO.none _
      | refine LeO.ite ?_ ?_
      | refine LeO.bind ?_ (fun _ => ?_)
theorem proofmarklaw27_LiftLines.mono : ∀ a0 a1 a2 a3 a4 a5 a6 a7 a8 a9 a10 a11 a12 a13 k, LeO (proofmarklaw27_LiftLines.f k a0 a1 a2 a3 a4 a5 a6 a7 a8 a9 a10 a11 a12 a13) (proofmarklaw27_LiftLines.f (k + 1) a0 a1 a2 a3 a4 a5 a6 a7 a8 a9 a10 a11 a12 a13) := by
  intro a0 a1 a2 a3 a4 a5 a6 a7 a8 a9 a10 a11 a12 a13 k
  obtain ⟨ih0, ih1, ih2⟩ := proofmarklaw27_LiftLines.mono_l k
  unfold proofmarklaw27_LiftLines.f
  repeat' first
      | (with_reducible exact ih0 _ _ _ _ _ _ _ _ _ _)
      | (with_reducible exact ih1 _ _ _ _ _ _ _ _ _ _ _)
      | (with_reducible exact ih2 _ _ _ _ _ _ _ _)
      | (with_reducible exact proofmarklaw27_fit.mono _ _ _ _ _ _ _ _ _ _ _ _ _ _)
      | (with_reducible exact proofmarklaw27_head.mono _)
      | (with_reducible exact proofmarkref27_Rows.mono _ _)
      | (with_reducible exact proofmarkref27_SameRows.mono _ _ _)
      | (with_reducible exact LeO.refl _)
      | (with_reducible exact LeO.none _)
      | (with_reducible refine LeO.ite ?_ ?_)
      | (with_reducible refine LeO.bind ?_ (fun _ => ?_))
      | exact ih0 _ _ _ _ _ _ _ _ _ _
      | exact ih1 _ _ _ _ _ _ _ _ _ _ _
      | exact ih2 _ _ _ _ _ _ _ _
      | exact proofmarklaw27_fit.mono _ _ _ _ _ _ _ _ _ _ _ _ _ _
      | exact proofmarklaw27_head.mono _
      | exact proofmarkref27_Rows.mono _ _
      | exact proofmarkref27_SameRows.mono _ _ _
      | exact LeO.none _
      | refine LeO.ite ?_ ?_
      | refine LeO.bind ?_ (fun _ => ?_)
def proofmarklaw27_LiftLines.T10 : Bool × List (List Nat × List Nat) := (true, [([], []), ([], []), ([], []), ([2], [2]), ([1, 3], [1, 3]), ([0, 4], [0, 4]), ([5], [5]), ([6], [6]), ([6], [6]), ([7, 5, 0, 1, 2, 3, 4, 5, 6, 7], [7]), ([8, 9, 0, 1, 2, 3, 4, 5, 6, 7, 8, 9], [8])])
def proofmarklaw27_LiftLines.B10 : List Nat := [0, 0, 0, 4, 14, 31, 63, 127, 127, 255, 1023]
theorem proofmarklaw27_LiftLines.tab10 : rtab .any (opsOf Tryd.f11 10) = proofmarklaw27_LiftLines.T10 := by kernel_rfl
theorem proofmarklaw27_LiftLines.bits10 : waitsOk proofmarklaw27_LiftLines.T10.2 proofmarklaw27_LiftLines.B10 = true := by kernel_rfl
set_option maxHeartbeats 8000000 in
set_option maxRecDepth 100000 in
theorem proofmarklaw27_LiftLines.calls1 (k : Nat) (A0_0 : Option Addr) (c0_0 : Nat) (l0_0 : List (S96)) (A0_1 : Option Addr) (c0_1 : Nat) (l0_1 : List (S111)) (A0_2 : Option Addr) (c0_2 : Nat) (l0_2 : List (S94)) (A0_3 : Option Addr) (c0_3 : Nat) (l0_3 : List (S73)) (A0_4 : Option Addr) (c0_4 : Nat) (l0_4 : List (S111)) (a0_5 : Int) (A0_6 : Option Addr) (c0_6 : Nat) (l0_6 : List (S201)) (A0_7 : Option Addr) (c0_7 : Nat) (l0_7 : List (S202)) (A0_8 : Option Addr) (c0_8 : Nat) (l0_8 : List (S98)) (A0_9 : Option Addr) (c0_9 : Nat) (l0_9 : List (S204)) (A0_10 : Option Addr) (c0_10 : Nat) (l0_10 : List (List Int)) (A0_11 : Option Addr) (c0_11 : Nat) (l0_11 : List Int) (a0_12 : ByteArray) (a1 : Int) (r : Bool) (w : World) (hG : Tab w) (hr0_0 : Kd.C k96 w A0_0 l0_0.length l0_0) (hc0_0 : l0_0.length ≤ c0_0) (hr0_1 : Kd.C k111 w A0_1 l0_1.length l0_1) (hc0_1 : l0_1.length ≤ c0_1) (hr0_2 : Kd.C k94 w A0_2 l0_2.length l0_2) (hc0_2 : l0_2.length ≤ c0_2) (hr0_3 : Kd.C k73 w A0_3 l0_3.length l0_3) (hc0_3 : l0_3.length ≤ c0_3) (hr0_4 : Kd.C k111 w A0_4 l0_4.length l0_4) (hc0_4 : l0_4.length ≤ c0_4) (hr0_6 : Kd.C k201 w A0_6 l0_6.length l0_6) (hc0_6 : l0_6.length ≤ c0_6) (hr0_7 : Kd.C k202 w A0_7 l0_7.length l0_7) (hc0_7 : l0_7.length ≤ c0_7) (hr0_8 : Kd.C k98 w A0_8 l0_8.length l0_8) (hc0_8 : l0_8.length ≤ c0_8) (hr0_9 : Kd.C k204 w A0_9 l0_9.length l0_9) (hc0_9 : l0_9.length ≤ c0_9) (hr0_10 : Kd.C (Kd.slice 3 (Kd.int .i64)) w A0_10 l0_10.length l0_10) (hc0_10 : l0_10.length ≤ c0_10) (hr0_11 : Kd.C (Kd.int .i64) w A0_11 l0_11.length l0_11) (hc0_11 : l0_11.length ≤ c0_11) (h : proofmarklaw27_LiftLines.f k l0_0 l0_1 l0_2 l0_3 l0_4 a0_5 l0_6 l0_7 l0_8 l0_9 l0_10 l0_11 a0_12 a1 = some r) (hr : r = true) :
    Calls Tryd.prog 11 #[.agg #[.slice A0_0 l0_0.length c0_0, .slice A0_1 l0_1.length c0_1, .slice A0_2 l0_2.length c0_2, .slice A0_3 l0_3.length c0_3, .slice A0_4 l0_4.length c0_4, .int .i64 a0_5, .slice A0_6 l0_6.length c0_6, .slice A0_7 l0_7.length c0_7, .slice A0_8 l0_8.length c0_8, .slice A0_9 l0_9.length c0_9, .slice A0_10 l0_10.length c0_10, .slice A0_11 l0_11.length c0_11, .string a0_12], .int .i64 a1] w fun e w' => e = .returned (.bool r) ∧ Below w.heap.size w w' := by
  have HRT := Aside0.mk hr
  clear hr
  have HG := Aside0.mk hG
  clear hG
  have hu61 := Tryd.underlying61
  have hu27 := Tryd.underlying27
  have hu53 := Tryd.underlying53
  have HR0_0 := Aside0.mk hr0_0
  have HC0_0 := Aside0.mk hc0_0
  clear hr0_0 hc0_0
  have HR0_1 := Aside0.mk hr0_1
  have HC0_1 := Aside0.mk hc0_1
  clear hr0_1 hc0_1
  have HR0_2 := Aside0.mk hr0_2
  have HC0_2 := Aside0.mk hc0_2
  clear hr0_2 hc0_2
  have HR0_3 := Aside0.mk hr0_3
  have HC0_3 := Aside0.mk hc0_3
  clear hr0_3 hc0_3
  have HR0_4 := Aside0.mk hr0_4
  have HC0_4 := Aside0.mk hc0_4
  clear hr0_4 hc0_4
  have HR0_6 := Aside0.mk hr0_6
  have HC0_6 := Aside0.mk hc0_6
  clear hr0_6 hc0_6
  have HR0_7 := Aside0.mk hr0_7
  have HC0_7 := Aside0.mk hc0_7
  clear hr0_7 hc0_7
  have HR0_8 := Aside0.mk hr0_8
  have HC0_8 := Aside0.mk hc0_8
  clear hr0_8 hc0_8
  have HR0_9 := Aside0.mk hr0_9
  have HC0_9 := Aside0.mk hc0_9
  clear hr0_9 hc0_9
  have HR0_10 := Aside0.mk hr0_10
  have HC0_10 := Aside0.mk hc0_10
  clear hr0_10 hc0_10
  have HR0_11 := Aside0.mk hr0_11
  have HC0_11 := Aside0.mk hc0_11
  clear hr0_11 hc0_11
  have HB := Aside0.mk (Below.refl w.heap.size w)
  have H : ((proofmarklaw27_head.f k).bind fun t189 => ((proofmarklaw27_fit.f k l0_0 l0_1 l0_2 l0_3 l0_4 a0_5 l0_6 l0_7 l0_8 l0_9 l0_10 l0_11 a0_12).bind fun bt190 => ((proofmarkref27_Rows.f k l0_10).bind fun t220 => ((lift_Trace.f bt190.1 bt190.2.1 bt190.2.2.1 bt190.2.2.2.1 bt190.2.2.2.2.1 t220).bind fun t223 => (if t223.toList = ([] : List UInt8) then (proofmarklaw27_LiftLines.j0 k a1 t189 t220 t223 true bt190.1 bt190.2.1 bt190.2.2.1 bt190.2.2.2.1 bt190.2.2.2.2.1) else (if a1 < 0 then (proofmarklaw27_LiftLines.j0 k a1 t189 t220 t223 true bt190.1 bt190.2.1 bt190.2.2.1 bt190.2.2.2.1 bt190.2.2.2.2.1) else (proofmarklaw27_LiftLines.j0 k a1 t189 t220 t223 (decide (a1 > (t220.length : Int))) bt190.1 bt190.2.1 bt190.2.2.1 bt190.2.2.2.1 bt190.2.2.2.2.1))))))) = some r := h
  clear h
  replace H := Option.bind_eq_some_iff.mp H
  obtain ⟨t189, A30, H⟩ := H
  replace H : ((proofmarklaw27_fit.f k l0_0 l0_1 l0_2 l0_3 l0_4 a0_5 l0_6 l0_7 l0_8 l0_9 l0_10 l0_11 a0_12).bind fun bt190 => ((proofmarkref27_Rows.f k l0_10).bind fun t220 => ((lift_Trace.f bt190.1 bt190.2.1 bt190.2.2.1 bt190.2.2.2.1 bt190.2.2.2.2.1 t220).bind fun t223 => (if t223.toList = ([] : List UInt8) then (proofmarklaw27_LiftLines.j0 k a1 t189 t220 t223 true bt190.1 bt190.2.1 bt190.2.2.1 bt190.2.2.2.1 bt190.2.2.2.2.1) else (if a1 < 0 then (proofmarklaw27_LiftLines.j0 k a1 t189 t220 t223 true bt190.1 bt190.2.1 bt190.2.2.1 bt190.2.2.2.1 bt190.2.2.2.2.1) else (proofmarklaw27_LiftLines.j0 k a1 t189 t220 t223 (decide (a1 > (t220.length : Int))) bt190.1 bt190.2.1 bt190.2.2.1 bt190.2.2.2.1 bt190.2.2.2.2.1)))))) = some r := H
  have A3 := Aside0.mk A30
  clear A30
  replace H := Option.bind_eq_some_iff.mp H
  obtain ⟨⟨t190, t193, t196, t199, t202, t205, t206, t209, t212, t215⟩, A40, H⟩ := H
  replace H : ((proofmarkref27_Rows.f k l0_10).bind fun t220 => ((lift_Trace.f t190 t193 t196 t199 t202 t220).bind fun t223 => (if t223.toList = ([] : List UInt8) then (proofmarklaw27_LiftLines.j0 k a1 t189 t220 t223 true t190 t193 t196 t199 t202) else (if a1 < 0 then (proofmarklaw27_LiftLines.j0 k a1 t189 t220 t223 true t190 t193 t196 t199 t202) else (proofmarklaw27_LiftLines.j0 k a1 t189 t220 t223 (decide (a1 > (t220.length : Int))) t190 t193 t196 t199 t202))))) = some r := H
  have A4 := Aside0.mk A40
  clear A40
  replace H := Option.bind_eq_some_iff.mp H
  obtain ⟨t220, A50, H⟩ := H
  replace H : ((lift_Trace.f t190 t193 t196 t199 t202 t220).bind fun t223 => (if t223.toList = ([] : List UInt8) then (proofmarklaw27_LiftLines.j0 k a1 t189 t220 t223 true t190 t193 t196 t199 t202) else (if a1 < 0 then (proofmarklaw27_LiftLines.j0 k a1 t189 t220 t223 true t190 t193 t196 t199 t202) else (proofmarklaw27_LiftLines.j0 k a1 t189 t220 t223 (decide (a1 > (t220.length : Int))) t190 t193 t196 t199 t202)))) = some r := H
  have A5 := Aside0.mk A50
  clear A50
  replace H := Option.bind_eq_some_iff.mp H
  obtain ⟨t223, A60, H⟩ := H
  replace H : (if t223.toList = ([] : List UInt8) then (proofmarklaw27_LiftLines.j0 k a1 t189 t220 t223 true t190 t193 t196 t199 t202) else (if a1 < 0 then (proofmarklaw27_LiftLines.j0 k a1 t189 t220 t223 true t190 t193 t196 t199 t202) else (proofmarklaw27_LiftLines.j0 k a1 t189 t220 t223 (decide (a1 > (t220.length : Int))) t190 t193 t196 t199 t202))) = some r := H
  have A6 := Aside0.mk A60
  clear A60
  have HC7 := Aside0.mk H
  clear H
  go_enter Tryd.func11, Tryd.ntmps11
  go_upto_region 5 with (first | ((with_reducible refine gate_dst (N := 2) rfl ?_); (try (refine gate_guard (by rfl) ?_; dsimp only)); refine box_event ?hg (N := 2) ?hd (cs := #[.slice A0_0 l0_0.length c0_0, .slice A0_1 l0_1.length c0_1, .slice A0_2 l0_2.length c0_2, .slice A0_3 l0_3.length c0_3, .slice A0_4 l0_4.length c0_4, .int .i64 a0_5, .slice A0_6 l0_6.length c0_6, .slice A0_7 l0_7.length c0_7, .slice A0_8 l0_8.length c0_8, .slice A0_9 l0_9.length c0_9, .slice A0_10 l0_10.length c0_10, .slice A0_11 l0_11.length c0_11, .string a0_12]) (t := 61) ?hr ?_; (case hd => rfl); (case hg => rfl); (case hr => first | (go_simp; done) | (go_simp; rfl)); intro gb188 hg w8 hbox hb; have n0_ := Aside0.mk (below_step (by repeat (first | (with_reducible first | exact HB.out | apply below_alloc | apply pw_below_drewN | apply below_drew1) | exact HB.out)) hb); have n1_ := Aside0.mk (hbox); have n2_ := Aside0.mk ((by rw [hg]; exact (below_size (by repeat (first | (with_reducible first | exact HB.out | apply below_alloc | apply pw_below_drewN | apply below_drew1) | exact HB.out))) : w.heap.size ≤ gb188)); have n3_ := Aside0.mk ((by rw [hg]; exact (below_size (by repeat (first | (with_reducible first | exact HB.out | apply below_alloc | apply pw_below_drewN | apply below_drew1) | exact HB.out))) : w.heap.size ≤ gb188)); clear HB; have HB := n0_; have BK188 := n1_; have GW188 := n2_; have GE188 := n3_; clear n0_ n1_ n2_ n3_; clear hb hbox hg) | ((with_reducible refine gate_callee (f := 26) rfl ?_); refine goesL_ (some 15) rfl rfl Tryd.func26 (by kernel_rfl) rfl #[] rfl (by (try simp only [List.map_toArray, List.map_cons, List.map_nil]); first | done | rfl | (simp only [List.length_drop, List.length_take]; rfl)) ?_; (with_reducible refine (proofmarklaw27_head.calls k t189 _ (by first | exact HG.out | (refine tab_below HG.out ?_; repeat (first | (with_reducible first | exact HB.out | apply below_alloc | apply pw_below_drewN | apply below_drew1 | refine below_set ?_ GE188.out | refine below_set ?_ GE218.out | refine below_set ?_ GE219.out) | exact HB.out)) | (refine tab_drawn HG.out ?_; repeat (first | exact Drawn0.refl _ | apply drawn_drewN | apply drawn_drew))) A3.out).mono ?_); rintro e w9 ⟨rfl, hb⟩; refine ⟨_, rfl, ?_⟩; have n0_ := Aside0.mk (blk_below (g := gb188) (o := .cells #[.slice A0_0 l0_0.length c0_0, .slice A0_1 l0_1.length c0_1, .slice A0_2 l0_2.length c0_2, .slice A0_3 l0_3.length c0_3, .slice A0_4 l0_4.length c0_4, .int .i64 a0_5, .slice A0_6 l0_6.length c0_6, .slice A0_7 l0_7.length c0_7, .slice A0_8 l0_8.length c0_8, .slice A0_9 l0_9.length c0_9, .slice A0_10 l0_10.length c0_10, .slice A0_11 l0_11.length c0_11, .string a0_12] 61 (0, 0)) (by (with_reducible repeat (first | refine blk_drewN ?_ _ | refine blk_drew ?_ | refine blk_alloc ?_ _)); exact BK188.out) hb); have n1_ := Aside0.mk (below_step (by repeat (first | (with_reducible first | exact HB.out | apply below_alloc | apply pw_below_drewN | apply below_drew1 | refine below_set ?_ GE188.out) | exact HB.out)) hb); clear BK188; clear HB; have BK188 := n0_; have HB := n1_; clear n0_ n1_; (try clear hb); (try clear hb2); (try clear hk); (try clear hi); have hcz10_0 : w9.cell? ⟨gb188, 0, none⟩ = some (.slice A0_0 l0_0.length c0_0) := (blk_cell BK188.out 0).trans rfl; have hcz10_1 : w9.cell? ⟨gb188, 1, none⟩ = some (.slice A0_1 l0_1.length c0_1) := (blk_cell BK188.out 1).trans rfl; have hcz10_2 : w9.cell? ⟨gb188, 2, none⟩ = some (.slice A0_2 l0_2.length c0_2) := (blk_cell BK188.out 2).trans rfl; have hcz10_3 : w9.cell? ⟨gb188, 3, none⟩ = some (.slice A0_3 l0_3.length c0_3) := (blk_cell BK188.out 3).trans rfl; have hcz10_4 : w9.cell? ⟨gb188, 4, none⟩ = some (.slice A0_4 l0_4.length c0_4) := (blk_cell BK188.out 4).trans rfl; have hcz10_5 : w9.cell? ⟨gb188, 5, none⟩ = some (.int .i64 a0_5) := (blk_cell BK188.out 5).trans rfl; have hcz10_6 : w9.cell? ⟨gb188, 6, none⟩ = some (.slice A0_6 l0_6.length c0_6) := (blk_cell BK188.out 6).trans rfl; have hcz10_7 : w9.cell? ⟨gb188, 7, none⟩ = some (.slice A0_7 l0_7.length c0_7) := (blk_cell BK188.out 7).trans rfl; have hcz10_8 : w9.cell? ⟨gb188, 8, none⟩ = some (.slice A0_8 l0_8.length c0_8) := (blk_cell BK188.out 8).trans rfl; have hcz10_9 : w9.cell? ⟨gb188, 9, none⟩ = some (.slice A0_9 l0_9.length c0_9) := (blk_cell BK188.out 9).trans rfl; have hcz10_10 : w9.cell? ⟨gb188, 10, none⟩ = some (.slice A0_10 l0_10.length c0_10) := (blk_cell BK188.out 10).trans rfl; have hcz10_11 : w9.cell? ⟨gb188, 11, none⟩ = some (.slice A0_11 l0_11.length c0_11) := (blk_cell BK188.out 11).trans rfl; have hcz10_12 : w9.cell? ⟨gb188, 12, none⟩ = some (.string a0_12) := (blk_cell BK188.out 12).trans rfl; have hfz10_0 := blk_frozen BK188.out 0; have hfz10_1 := blk_frozen BK188.out 1; have hfz10_2 := blk_frozen BK188.out 2; have hfz10_3 := blk_frozen BK188.out 3; have hfz10_4 := blk_frozen BK188.out 4; have hfz10_5 := blk_frozen BK188.out 5; have hfz10_6 := blk_frozen BK188.out 6; have hfz10_7 := blk_frozen BK188.out 7; have hfz10_8 := blk_frozen BK188.out 8; have hfz10_9 := blk_frozen BK188.out 9; have hfz10_10 := blk_frozen BK188.out 10; have hfz10_11 := blk_frozen BK188.out 11; have hfz10_12 := blk_frozen BK188.out 12) | ((with_reducible refine gate_callee (f := 27) rfl ?_); refine goesL_ (some 18) rfl rfl Tryd.func27 (by kernel_rfl) rfl #[.agg #[.slice A0_0 l0_0.length c0_0, .slice A0_1 l0_1.length c0_1, .slice A0_2 l0_2.length c0_2, .slice A0_3 l0_3.length c0_3, .slice A0_4 l0_4.length c0_4, .int .i64 a0_5, .slice A0_6 l0_6.length c0_6, .slice A0_7 l0_7.length c0_7, .slice A0_8 l0_8.length c0_8, .slice A0_9 l0_9.length c0_9, .slice A0_10 l0_10.length c0_10, .slice A0_11 l0_11.length c0_11, .string a0_12]] rfl (by (try simp only [List.map_toArray, List.map_cons, List.map_nil]); first | done | rfl | (simp only [List.length_drop, List.length_take]; rfl)) ?_; (with_reducible refine (proofmarklaw27_fit.calls k _ _ l0_0 _ _ l0_1 _ _ l0_2 _ _ l0_3 _ _ l0_4 a0_5 _ _ l0_6 _ _ l0_7 _ _ l0_8 _ _ l0_9 _ _ l0_10 _ _ l0_11 a0_12 t190 t193 t196 t199 t202 t205 t206 t209 t212 t215 _ ?side1 ?side2 ?side3 ?side4 ?side5 ?side6 ?side7 ?side8 ?side9 ?side10 ?side11 ?side12 ?side13 ?side14 ?side15 ?side16 ?side17 ?side18 ?side19 ?side20 ?side21 ?side22 A4.out).mono ?_); (case side1 => repeat (first | exact (Kd.C_below HR0_0.out HB.out) | (with_reducible refine Kd.C_alloc ?_ _) | (with_reducible refine Kd.C_drewN ?_ _) | (with_reducible refine Kd.C_drew ?_))); (case side2 => exact HC0_0.out); (case side3 => repeat (first | exact (Kd.C_below HR0_1.out HB.out) | (with_reducible refine Kd.C_alloc ?_ _) | (with_reducible refine Kd.C_drewN ?_ _) | (with_reducible refine Kd.C_drew ?_))); (case side4 => exact HC0_1.out); (case side5 => repeat (first | exact (Kd.C_below HR0_2.out HB.out) | (with_reducible refine Kd.C_alloc ?_ _) | (with_reducible refine Kd.C_drewN ?_ _) | (with_reducible refine Kd.C_drew ?_))); (case side6 => exact HC0_2.out); (case side7 => repeat (first | exact (Kd.C_below HR0_3.out HB.out) | (with_reducible refine Kd.C_alloc ?_ _) | (with_reducible refine Kd.C_drewN ?_ _) | (with_reducible refine Kd.C_drew ?_))); (case side8 => exact HC0_3.out); (case side9 => repeat (first | exact (Kd.C_below HR0_4.out HB.out) | (with_reducible refine Kd.C_alloc ?_ _) | (with_reducible refine Kd.C_drewN ?_ _) | (with_reducible refine Kd.C_drew ?_))); (case side10 => exact HC0_4.out); (case side11 => repeat (first | exact (Kd.C_below HR0_6.out HB.out) | (with_reducible refine Kd.C_alloc ?_ _) | (with_reducible refine Kd.C_drewN ?_ _) | (with_reducible refine Kd.C_drew ?_))); (case side12 => exact HC0_6.out); (case side13 => repeat (first | exact (Kd.C_below HR0_7.out HB.out) | (with_reducible refine Kd.C_alloc ?_ _) | (with_reducible refine Kd.C_drewN ?_ _) | (with_reducible refine Kd.C_drew ?_))); (case side14 => exact HC0_7.out); (case side15 => repeat (first | exact (Kd.C_below HR0_8.out HB.out) | (with_reducible refine Kd.C_alloc ?_ _) | (with_reducible refine Kd.C_drewN ?_ _) | (with_reducible refine Kd.C_drew ?_))); (case side16 => exact HC0_8.out); (case side17 => repeat (first | exact (Kd.C_below HR0_9.out HB.out) | (with_reducible refine Kd.C_alloc ?_ _) | (with_reducible refine Kd.C_drewN ?_ _) | (with_reducible refine Kd.C_drew ?_))); (case side18 => exact HC0_9.out); (case side19 => repeat (first | exact (Kd.C_below HR0_10.out HB.out) | (with_reducible refine Kd.C_alloc ?_ _) | (with_reducible refine Kd.C_drewN ?_ _) | (with_reducible refine Kd.C_drew ?_))); (case side20 => exact HC0_10.out); (case side21 => repeat (first | exact (Kd.C_below HR0_11.out HB.out) | (with_reducible refine Kd.C_alloc ?_ _) | (with_reducible refine Kd.C_drewN ?_ _) | (with_reducible refine Kd.C_drew ?_))); (case side22 => exact HC0_11.out); rintro e w11 ⟨v191, v194, v197, v200, v203, v207, v210, v213, v216, rfl, ho0, ho1, ho2, ho3, ho4, ho5, ho6, ho7, ho8, hb⟩; refine ⟨_, rfl, ?_⟩; have n0_ := Aside0.mk (Kd.R_lower ho0 (below_size (by repeat (first | (with_reducible first | exact HB.out | apply below_alloc | apply pw_below_drewN | apply below_drew1 | refine below_set ?_ GE188.out) | exact HB.out)))); have n1_ := Aside0.mk (Kd.R_lower ho1 (below_size (by repeat (first | (with_reducible first | exact HB.out | apply below_alloc | apply pw_below_drewN | apply below_drew1 | refine below_set ?_ GE188.out) | exact HB.out)))); have n2_ := Aside0.mk (Kd.R_lower ho2 (below_size (by repeat (first | (with_reducible first | exact HB.out | apply below_alloc | apply pw_below_drewN | apply below_drew1 | refine below_set ?_ GE188.out) | exact HB.out)))); have n3_ := Aside0.mk (Kd.R_lower ho3 (below_size (by repeat (first | (with_reducible first | exact HB.out | apply below_alloc | apply pw_below_drewN | apply below_drew1 | refine below_set ?_ GE188.out) | exact HB.out)))); have n4_ := Aside0.mk (Kd.R_lower ho4 (below_size (by repeat (first | (with_reducible first | exact HB.out | apply below_alloc | apply pw_below_drewN | apply below_drew1 | refine below_set ?_ GE188.out) | exact HB.out)))); have n5_ := Aside0.mk (Kd.R_lower ho5 (below_size (by repeat (first | (with_reducible first | exact HB.out | apply below_alloc | apply pw_below_drewN | apply below_drew1 | refine below_set ?_ GE188.out) | exact HB.out)))); have n6_ := Aside0.mk (Kd.R_lower ho6 (below_size (by repeat (first | (with_reducible first | exact HB.out | apply below_alloc | apply pw_below_drewN | apply below_drew1 | refine below_set ?_ GE188.out) | exact HB.out)))); have n7_ := Aside0.mk (Kd.R_lower ho7 (below_size (by repeat (first | (with_reducible first | exact HB.out | apply below_alloc | apply pw_below_drewN | apply below_drew1 | refine below_set ?_ GE188.out) | exact HB.out)))); have n8_ := Aside0.mk (Kd.R_lower ho8 (below_size (by repeat (first | (with_reducible first | exact HB.out | apply below_alloc | apply pw_below_drewN | apply below_drew1 | refine below_set ?_ GE188.out) | exact HB.out)))); have n9_ := Aside0.mk (blk_below (g := gb188) (o := .cells #[.slice A0_0 l0_0.length c0_0, .slice A0_1 l0_1.length c0_1, .slice A0_2 l0_2.length c0_2, .slice A0_3 l0_3.length c0_3, .slice A0_4 l0_4.length c0_4, .int .i64 a0_5, .slice A0_6 l0_6.length c0_6, .slice A0_7 l0_7.length c0_7, .slice A0_8 l0_8.length c0_8, .slice A0_9 l0_9.length c0_9, .slice A0_10 l0_10.length c0_10, .slice A0_11 l0_11.length c0_11, .string a0_12] 61 (0, 0)) (by (with_reducible repeat (first | refine blk_drewN ?_ _ | refine blk_drew ?_ | refine blk_alloc ?_ _)); exact BK188.out) hb); have n10_ := Aside0.mk (below_step (by repeat (first | (with_reducible first | exact HB.out | apply below_alloc | apply pw_below_drewN | apply below_drew1 | refine below_set ?_ GE188.out) | exact HB.out)) hb); clear BK188; clear HB; have HO192 := n0_; have HO195 := n1_; have HO198 := n2_; have HO201 := n3_; have HO204 := n4_; have HO208 := n5_; have HO211 := n6_; have HO214 := n7_; have HO217 := n8_; have BK188 := n9_; have HB := n10_; clear n0_ n1_ n2_ n3_ n4_ n5_ n6_ n7_ n8_ n9_ n10_; (try clear hb); (try clear hb2); (try clear hk); (try clear hi); (try clear ho0); (try clear ho1); (try clear ho2); (try clear ho3); (try clear ho4); (try clear ho5); (try clear ho6); (try clear ho7); (try clear ho8)) | ((with_reducible refine gate_dst (N := 6) rfl ?_); (try (refine gate_guard (by rfl) ?_; dsimp only)); refine box_event ?hg (N := 6) ?hd (cs := #[.slice none 0 0, .slice none 0 0, .slice none 0 0, .slice none 0 0, .slice none 0 0]) (t := 27) ?hr ?_; (case hd => rfl); (case hg => rfl); (case hr => first | (go_simp; done) | (go_simp; rfl)); intro gb218 hg w12 hbox hb; have n0_ := Aside0.mk (Kd.R_below (by (with_reducible repeat (first | apply Kd.R_alloc | apply Kd.R_drewN | apply Kd.R_drew)); exact HO192.out) hb); have n1_ := Aside0.mk (Kd.R_below (by (with_reducible repeat (first | apply Kd.R_alloc | apply Kd.R_drewN | apply Kd.R_drew)); exact HO195.out) hb); have n2_ := Aside0.mk (Kd.R_below (by (with_reducible repeat (first | apply Kd.R_alloc | apply Kd.R_drewN | apply Kd.R_drew)); exact HO198.out) hb); have n3_ := Aside0.mk (Kd.R_below (by (with_reducible repeat (first | apply Kd.R_alloc | apply Kd.R_drewN | apply Kd.R_drew)); exact HO201.out) hb); have n4_ := Aside0.mk (Kd.R_below (by (with_reducible repeat (first | apply Kd.R_alloc | apply Kd.R_drewN | apply Kd.R_drew)); exact HO204.out) hb); have n5_ := Aside0.mk (Kd.R_below (by (with_reducible repeat (first | apply Kd.R_alloc | apply Kd.R_drewN | apply Kd.R_drew)); exact HO208.out) hb); have n6_ := Aside0.mk (Kd.R_below (by (with_reducible repeat (first | apply Kd.R_alloc | apply Kd.R_drewN | apply Kd.R_drew)); exact HO211.out) hb); have n7_ := Aside0.mk (Kd.R_below (by (with_reducible repeat (first | apply Kd.R_alloc | apply Kd.R_drewN | apply Kd.R_drew)); exact HO214.out) hb); have n8_ := Aside0.mk (Kd.R_below (by (with_reducible repeat (first | apply Kd.R_alloc | apply Kd.R_drewN | apply Kd.R_drew)); exact HO217.out) hb); have n9_ := Aside0.mk (blk_below (g := gb188) (o := .cells #[.slice A0_0 l0_0.length c0_0, .slice A0_1 l0_1.length c0_1, .slice A0_2 l0_2.length c0_2, .slice A0_3 l0_3.length c0_3, .slice A0_4 l0_4.length c0_4, .int .i64 a0_5, .slice A0_6 l0_6.length c0_6, .slice A0_7 l0_7.length c0_7, .slice A0_8 l0_8.length c0_8, .slice A0_9 l0_9.length c0_9, .slice A0_10 l0_10.length c0_10, .slice A0_11 l0_11.length c0_11, .string a0_12] 61 (0, 0)) (by (with_reducible repeat (first | refine blk_drewN ?_ _ | refine blk_drew ?_ | refine blk_alloc ?_ _)); exact BK188.out) hb); have n10_ := Aside0.mk (below_step (by repeat (first | (with_reducible first | exact HB.out | apply below_alloc | apply pw_below_drewN | apply below_drew1 | refine below_set ?_ GE188.out) | exact HB.out)) hb); have n11_ := Aside0.mk (hbox); have n12_ := Aside0.mk ((by rw [hg]; exact (below_size (by repeat (first | (with_reducible first | exact HB.out | apply below_alloc | apply pw_below_drewN | apply below_drew1 | refine below_set ?_ GE188.out) | exact HB.out))) : w.heap.size ≤ gb218)); have n13_ := Aside0.mk ((by rw [hg]; exact (below_size (by repeat (first | (with_reducible first | exact HB.out | apply below_alloc | apply pw_below_drewN | apply below_drew1 | refine below_set ?_ GE188.out) | exact HB.out))) : w.heap.size ≤ gb218)); have n14_ := Aside0.mk ((by rw [hg]; exact Nat.ne_of_lt (blk_lt (g := gb188) (o := .cells #[.slice A0_0 l0_0.length c0_0, .slice A0_1 l0_1.length c0_1, .slice A0_2 l0_2.length c0_2, .slice A0_3 l0_3.length c0_3, .slice A0_4 l0_4.length c0_4, .int .i64 a0_5, .slice A0_6 l0_6.length c0_6, .slice A0_7 l0_7.length c0_7, .slice A0_8 l0_8.length c0_8, .slice A0_9 l0_9.length c0_9, .slice A0_10 l0_10.length c0_10, .slice A0_11 l0_11.length c0_11, .string a0_12] 61 (0, 0)) (by (with_reducible repeat (first | refine blk_drewN ?_ _ | refine blk_drew ?_ | refine blk_alloc ?_ _)); exact BK188.out)) : gb188 ≠ gb218)); have n15_ := Aside0.mk ((by rw [hg]; exact Nat.ne_of_gt (blk_lt (g := gb188) (o := .cells #[.slice A0_0 l0_0.length c0_0, .slice A0_1 l0_1.length c0_1, .slice A0_2 l0_2.length c0_2, .slice A0_3 l0_3.length c0_3, .slice A0_4 l0_4.length c0_4, .int .i64 a0_5, .slice A0_6 l0_6.length c0_6, .slice A0_7 l0_7.length c0_7, .slice A0_8 l0_8.length c0_8, .slice A0_9 l0_9.length c0_9, .slice A0_10 l0_10.length c0_10, .slice A0_11 l0_11.length c0_11, .string a0_12] 61 (0, 0)) (by (with_reducible repeat (first | refine blk_drewN ?_ _ | refine blk_drew ?_ | refine blk_alloc ?_ _)); exact BK188.out)) : gb218 ≠ gb188)); clear HO192; clear HO195; clear HO198; clear HO201; clear HO204; clear HO208; clear HO211; clear HO214; clear HO217; clear BK188; clear HB; have HO192 := n0_; have HO195 := n1_; have HO198 := n2_; have HO201 := n3_; have HO204 := n4_; have HO208 := n5_; have HO211 := n6_; have HO214 := n7_; have HO217 := n8_; have BK188 := n9_; have HB := n10_; have BK218 := n11_; have GW218 := n12_; have GE218 := n13_; have NB188_218 := n14_; have NB218_188 := n15_; clear n0_ n1_ n2_ n3_ n4_ n5_ n6_ n7_ n8_ n9_ n10_ n11_ n12_ n13_ n14_ n15_; clear hb hbox hg) | ((with_reducible refine gate_dst (N := 7) rfl ?_); (try (refine gate_guard (by rfl) ?_; dsimp only)); refine box_event ?hg (N := 7) ?hd (cs := #[.int .i64 0, .slice none 0 0, .slice none 0 0, .slice none 0 0, .slice none 0 0]) (t := 53) ?hr ?_; (case hd => rfl); (case hg => rfl); (case hr => first | (go_simp; done) | (go_simp; rfl)); intro gb219 hg w13 hbox hb; have n0_ := Aside0.mk (Kd.R_below (by (with_reducible repeat (first | apply Kd.R_alloc | apply Kd.R_drewN | apply Kd.R_drew)); exact HO192.out) hb); have n1_ := Aside0.mk (Kd.R_below (by (with_reducible repeat (first | apply Kd.R_alloc | apply Kd.R_drewN | apply Kd.R_drew)); exact HO195.out) hb); have n2_ := Aside0.mk (Kd.R_below (by (with_reducible repeat (first | apply Kd.R_alloc | apply Kd.R_drewN | apply Kd.R_drew)); exact HO198.out) hb); have n3_ := Aside0.mk (Kd.R_below (by (with_reducible repeat (first | apply Kd.R_alloc | apply Kd.R_drewN | apply Kd.R_drew)); exact HO201.out) hb); have n4_ := Aside0.mk (Kd.R_below (by (with_reducible repeat (first | apply Kd.R_alloc | apply Kd.R_drewN | apply Kd.R_drew)); exact HO204.out) hb); have n5_ := Aside0.mk (Kd.R_below (by (with_reducible repeat (first | apply Kd.R_alloc | apply Kd.R_drewN | apply Kd.R_drew)); exact HO208.out) hb); have n6_ := Aside0.mk (Kd.R_below (by (with_reducible repeat (first | apply Kd.R_alloc | apply Kd.R_drewN | apply Kd.R_drew)); exact HO211.out) hb); have n7_ := Aside0.mk (Kd.R_below (by (with_reducible repeat (first | apply Kd.R_alloc | apply Kd.R_drewN | apply Kd.R_drew)); exact HO214.out) hb); have n8_ := Aside0.mk (Kd.R_below (by (with_reducible repeat (first | apply Kd.R_alloc | apply Kd.R_drewN | apply Kd.R_drew)); exact HO217.out) hb); have n9_ := Aside0.mk (blk_below (g := gb188) (o := .cells #[.slice A0_0 l0_0.length c0_0, .slice A0_1 l0_1.length c0_1, .slice A0_2 l0_2.length c0_2, .slice A0_3 l0_3.length c0_3, .slice A0_4 l0_4.length c0_4, .int .i64 a0_5, .slice A0_6 l0_6.length c0_6, .slice A0_7 l0_7.length c0_7, .slice A0_8 l0_8.length c0_8, .slice A0_9 l0_9.length c0_9, .slice A0_10 l0_10.length c0_10, .slice A0_11 l0_11.length c0_11, .string a0_12] 61 (0, 0)) (by (with_reducible repeat (first | refine blk_drewN ?_ _ | refine blk_drew ?_ | refine blk_alloc ?_ _)); exact BK188.out) hb); have n10_ := Aside0.mk (blk_below (g := gb218) (o := .cells #[.slice none 0 0, .slice none 0 0, .slice none 0 0, .slice none 0 0, .slice none 0 0] 27 (0, 0)) (by (with_reducible repeat (first | refine blk_drewN ?_ _ | refine blk_drew ?_ | refine blk_alloc ?_ _)); exact BK218.out) hb); have n11_ := Aside0.mk (below_step (by repeat (first | (with_reducible first | exact HB.out | apply below_alloc | apply pw_below_drewN | apply below_drew1 | refine below_set ?_ GE188.out | refine below_set ?_ GE218.out) | exact HB.out)) hb); have n12_ := Aside0.mk (hbox); have n13_ := Aside0.mk ((by rw [hg]; exact (below_size (by repeat (first | (with_reducible first | exact HB.out | apply below_alloc | apply pw_below_drewN | apply below_drew1 | refine below_set ?_ GE188.out | refine below_set ?_ GE218.out) | exact HB.out))) : w.heap.size ≤ gb219)); have n14_ := Aside0.mk ((by rw [hg]; exact (below_size (by repeat (first | (with_reducible first | exact HB.out | apply below_alloc | apply pw_below_drewN | apply below_drew1 | refine below_set ?_ GE188.out | refine below_set ?_ GE218.out) | exact HB.out))) : w.heap.size ≤ gb219)); have n15_ := Aside0.mk ((by rw [hg]; exact Nat.ne_of_lt (blk_lt (g := gb188) (o := .cells #[.slice A0_0 l0_0.length c0_0, .slice A0_1 l0_1.length c0_1, .slice A0_2 l0_2.length c0_2, .slice A0_3 l0_3.length c0_3, .slice A0_4 l0_4.length c0_4, .int .i64 a0_5, .slice A0_6 l0_6.length c0_6, .slice A0_7 l0_7.length c0_7, .slice A0_8 l0_8.length c0_8, .slice A0_9 l0_9.length c0_9, .slice A0_10 l0_10.length c0_10, .slice A0_11 l0_11.length c0_11, .string a0_12] 61 (0, 0)) (by (with_reducible repeat (first | refine blk_drewN ?_ _ | refine blk_drew ?_ | refine blk_alloc ?_ _)); exact BK188.out)) : gb188 ≠ gb219)); have n16_ := Aside0.mk ((by rw [hg]; exact Nat.ne_of_gt (blk_lt (g := gb188) (o := .cells #[.slice A0_0 l0_0.length c0_0, .slice A0_1 l0_1.length c0_1, .slice A0_2 l0_2.length c0_2, .slice A0_3 l0_3.length c0_3, .slice A0_4 l0_4.length c0_4, .int .i64 a0_5, .slice A0_6 l0_6.length c0_6, .slice A0_7 l0_7.length c0_7, .slice A0_8 l0_8.length c0_8, .slice A0_9 l0_9.length c0_9, .slice A0_10 l0_10.length c0_10, .slice A0_11 l0_11.length c0_11, .string a0_12] 61 (0, 0)) (by (with_reducible repeat (first | refine blk_drewN ?_ _ | refine blk_drew ?_ | refine blk_alloc ?_ _)); exact BK188.out)) : gb219 ≠ gb188)); have n17_ := Aside0.mk ((by rw [hg]; exact Nat.ne_of_lt (blk_lt (g := gb218) (o := .cells #[.slice none 0 0, .slice none 0 0, .slice none 0 0, .slice none 0 0, .slice none 0 0] 27 (0, 0)) (by (with_reducible repeat (first | refine blk_drewN ?_ _ | refine blk_drew ?_ | refine blk_alloc ?_ _)); exact BK218.out)) : gb218 ≠ gb219)); have n18_ := Aside0.mk ((by rw [hg]; exact Nat.ne_of_gt (blk_lt (g := gb218) (o := .cells #[.slice none 0 0, .slice none 0 0, .slice none 0 0, .slice none 0 0, .slice none 0 0] 27 (0, 0)) (by (with_reducible repeat (first | refine blk_drewN ?_ _ | refine blk_drew ?_ | refine blk_alloc ?_ _)); exact BK218.out)) : gb219 ≠ gb218)); clear HO192; clear HO195; clear HO198; clear HO201; clear HO204; clear HO208; clear HO211; clear HO214; clear HO217; clear BK188; clear BK218; clear HB; have HO192 := n0_; have HO195 := n1_; have HO198 := n2_; have HO201 := n3_; have HO204 := n4_; have HO208 := n5_; have HO211 := n6_; have HO214 := n7_; have HO217 := n8_; have BK188 := n9_; have BK218 := n10_; have HB := n11_; have BK219 := n12_; have GW219 := n13_; have GE219 := n14_; have NB188_219 := n15_; have NB219_188 := n16_; have NB218_219 := n17_; have NB219_218 := n18_; clear n0_ n1_ n2_ n3_ n4_ n5_ n6_ n7_ n8_ n9_ n10_ n11_ n12_ n13_ n14_ n15_ n16_ n17_ n18_; clear hb hbox hg; obtain ⟨Ao14, co14, eo14⟩ := Kd.R_slice HO192.out; subst eo14; have hnb15 := NB218_188.out; have hnc15 := NB188_218.out; have hnb16 := NB218_219.out; have hnc16 := NB219_218.out; have hcz17_0 : w13.cell? ⟨gb218, 0, none⟩ = some (.slice none 0 0) := (blk_cell BK218.out 0).trans rfl; have hcz17_1 : w13.cell? ⟨gb218, 1, none⟩ = some (.slice none 0 0) := (blk_cell BK218.out 1).trans rfl; have hcz17_2 : w13.cell? ⟨gb218, 2, none⟩ = some (.slice none 0 0) := (blk_cell BK218.out 2).trans rfl; have hcz17_3 : w13.cell? ⟨gb218, 3, none⟩ = some (.slice none 0 0) := (blk_cell BK218.out 3).trans rfl; have hcz17_4 : w13.cell? ⟨gb218, 4, none⟩ = some (.slice none 0 0) := (blk_cell BK218.out 4).trans rfl; have hfz17_0 := blk_frozen BK218.out 0; have hfz17_1 := blk_frozen BK218.out 1; have hfz17_2 := blk_frozen BK218.out 2; have hfz17_3 := blk_frozen BK218.out 3; have hfz17_4 := blk_frozen BK218.out 4; obtain ⟨Ao18, co18, eo18⟩ := Kd.R_slice HO195.out; subst eo18; obtain ⟨Ao19, co19, eo19⟩ := Kd.R_slice HO198.out; subst eo19; obtain ⟨Ao20, co20, eo20⟩ := Kd.R_slice HO201.out; subst eo20; obtain ⟨Ao21, co21, eo21⟩ := Kd.R_slice HO204.out; subst eo21; have hnb22 := NB219_188.out; have hnc22 := NB188_219.out; have hcz23_0 : w13.cell? ⟨gb219, 0, none⟩ = some (.int .i64 0) := (blk_cell BK219.out 0).trans rfl; have hcz23_1 : w13.cell? ⟨gb219, 1, none⟩ = some (.slice none 0 0) := (blk_cell BK219.out 1).trans rfl; have hcz23_2 : w13.cell? ⟨gb219, 2, none⟩ = some (.slice none 0 0) := (blk_cell BK219.out 2).trans rfl; have hcz23_3 : w13.cell? ⟨gb219, 3, none⟩ = some (.slice none 0 0) := (blk_cell BK219.out 3).trans rfl; have hcz23_4 : w13.cell? ⟨gb219, 4, none⟩ = some (.slice none 0 0) := (blk_cell BK219.out 4).trans rfl; have hfz23_0 := blk_frozen BK219.out 0; have hfz23_1 := blk_frozen BK219.out 1; have hfz23_2 := blk_frozen BK219.out 2; have hfz23_3 := blk_frozen BK219.out 3; have hfz23_4 := blk_frozen BK219.out 4; obtain ⟨Ao24, co24, eo24⟩ := Kd.R_slice HO208.out; subst eo24; obtain ⟨Ao25, co25, eo25⟩ := Kd.R_slice HO211.out; subst eo25; obtain ⟨Ao26, co26, eo26⟩ := Kd.R_slice HO214.out; subst eo26; obtain ⟨Ao27, co27, eo27⟩ := Kd.R_slice HO217.out; subst eo27; have hcz28_0 : w13.cell? ⟨gb188, 0, none⟩ = some (.slice A0_0 l0_0.length c0_0) := (blk_cell BK188.out 0).trans rfl; have hcz28_1 : w13.cell? ⟨gb188, 1, none⟩ = some (.slice A0_1 l0_1.length c0_1) := (blk_cell BK188.out 1).trans rfl; have hcz28_2 : w13.cell? ⟨gb188, 2, none⟩ = some (.slice A0_2 l0_2.length c0_2) := (blk_cell BK188.out 2).trans rfl; have hcz28_3 : w13.cell? ⟨gb188, 3, none⟩ = some (.slice A0_3 l0_3.length c0_3) := (blk_cell BK188.out 3).trans rfl; have hcz28_4 : w13.cell? ⟨gb188, 4, none⟩ = some (.slice A0_4 l0_4.length c0_4) := (blk_cell BK188.out 4).trans rfl; have hcz28_5 : w13.cell? ⟨gb188, 5, none⟩ = some (.int .i64 a0_5) := (blk_cell BK188.out 5).trans rfl; have hcz28_6 : w13.cell? ⟨gb188, 6, none⟩ = some (.slice A0_6 l0_6.length c0_6) := (blk_cell BK188.out 6).trans rfl; have hcz28_7 : w13.cell? ⟨gb188, 7, none⟩ = some (.slice A0_7 l0_7.length c0_7) := (blk_cell BK188.out 7).trans rfl; have hcz28_8 : w13.cell? ⟨gb188, 8, none⟩ = some (.slice A0_8 l0_8.length c0_8) := (blk_cell BK188.out 8).trans rfl; have hcz28_9 : w13.cell? ⟨gb188, 9, none⟩ = some (.slice A0_9 l0_9.length c0_9) := (blk_cell BK188.out 9).trans rfl; have hcz28_10 : w13.cell? ⟨gb188, 10, none⟩ = some (.slice A0_10 l0_10.length c0_10) := (blk_cell BK188.out 10).trans rfl; have hcz28_11 : w13.cell? ⟨gb188, 11, none⟩ = some (.slice A0_11 l0_11.length c0_11) := (blk_cell BK188.out 11).trans rfl; have hcz28_12 : w13.cell? ⟨gb188, 12, none⟩ = some (.string a0_12) := (blk_cell BK188.out 12).trans rfl; have hfz28_0 := blk_frozen BK188.out 0; have hfz28_1 := blk_frozen BK188.out 1; have hfz28_2 := blk_frozen BK188.out 2; have hfz28_3 := blk_frozen BK188.out 3; have hfz28_4 := blk_frozen BK188.out 4; have hfz28_5 := blk_frozen BK188.out 5; have hfz28_6 := blk_frozen BK188.out 6; have hfz28_7 := blk_frozen BK188.out 7; have hfz28_8 := blk_frozen BK188.out 8; have hfz28_9 := blk_frozen BK188.out 9; have hfz28_10 := blk_frozen BK188.out 10; have hfz28_11 := blk_frozen BK188.out 11; have hfz28_12 := blk_frozen BK188.out 12) | ((with_reducible refine gate_callee (f := 28) rfl ?_); refine goesL_ (some 23) rfl rfl Tryd.func28 (by kernel_rfl) rfl #[.slice A0_10 l0_10.length c0_10] rfl (by (try simp only [List.map_toArray, List.map_cons, List.map_nil]); first | done | rfl | (simp only [List.length_drop, List.length_take]; rfl)) ?_; (with_reducible refine (proofmarkref27_Rows.calls k _ _ l0_10 t220 _ ?side1 ?side2 A5.out).mono ?_); (case side1 => exact Kd.C_below HR0_10.out (by repeat (first | (with_reducible first | exact HB.out | apply below_alloc | apply pw_below_drewN | apply below_drew1 | refine below_set ?_ GE188.out | refine below_set ?_ GE218.out | refine below_set ?_ GE219.out) | exact HB.out))); (case side2 => exact HC0_10.out); rintro e w29 ⟨v221, rfl, ho0, hb⟩; refine ⟨_, rfl, ?_⟩; have n0_ := Aside0.mk (Kd.R_below (by (with_reducible repeat (first | apply Kd.R_alloc | apply Kd.R_drewN | apply Kd.R_drew)); exact (Kd.R_mono (Kd.R_mono (Kd.R_far (p := ⟨gb219, 4, none⟩) (Kd.R_far (p := ⟨gb219, 3, none⟩) (Kd.R_far (p := ⟨gb219, 2, none⟩) (Kd.R_far (p := ⟨gb219, 1, none⟩) (Kd.R_far (p := ⟨gb219, 0, none⟩) (Kd.R_far (p := ⟨gb218, 4, none⟩) (Kd.R_far (p := ⟨gb218, 3, none⟩) (Kd.R_far (p := ⟨gb218, 2, none⟩) (Kd.R_far (p := ⟨gb218, 1, none⟩) (Kd.R_far (p := ⟨gb218, 0, none⟩) (Kd.R_types (Kd.R_types HO192.out BK218.out (by decide)) BK219.out (by decide)) (fun _ hk => hk.1.2) (.slice Ao14 t190.length co14)) (fun _ hk => hk.1.2) (.slice Ao18 t193.length co18)) (fun _ hk => hk.1.2) (.slice Ao19 t196.length co19)) (fun _ hk => hk.1.2) (.slice Ao20 t199.length co20)) (fun _ hk => hk.1.2) (.slice Ao21 t202.length co21)) (fun _ hk => hk.2) (.int .i64 t205)) (fun _ hk => hk.2) (.slice Ao24 t206.length co24)) (fun _ hk => hk.2) (.slice Ao25 t209.length co25)) (fun _ hk => hk.2) (.slice Ao26 t212.length co26)) (fun _ hk => hk.2) (.slice Ao27 t215.length co27)) (fun _ h_ => h_.1)) (fun _ h_ => h_.1))) hb); have n1_ := Aside0.mk (Kd.R_below (by (with_reducible repeat (first | apply Kd.R_alloc | apply Kd.R_drewN | apply Kd.R_drew)); exact (Kd.R_mono (Kd.R_mono (Kd.R_far (p := ⟨gb219, 4, none⟩) (Kd.R_far (p := ⟨gb219, 3, none⟩) (Kd.R_far (p := ⟨gb219, 2, none⟩) (Kd.R_far (p := ⟨gb219, 1, none⟩) (Kd.R_far (p := ⟨gb219, 0, none⟩) (Kd.R_far (p := ⟨gb218, 4, none⟩) (Kd.R_far (p := ⟨gb218, 3, none⟩) (Kd.R_far (p := ⟨gb218, 2, none⟩) (Kd.R_far (p := ⟨gb218, 1, none⟩) (Kd.R_far (p := ⟨gb218, 0, none⟩) (Kd.R_types (Kd.R_types HO195.out BK218.out (by decide)) BK219.out (by decide)) (fun _ hk => hk.1.2) (.slice Ao14 t190.length co14)) (fun _ hk => hk.1.2) (.slice Ao18 t193.length co18)) (fun _ hk => hk.1.2) (.slice Ao19 t196.length co19)) (fun _ hk => hk.1.2) (.slice Ao20 t199.length co20)) (fun _ hk => hk.1.2) (.slice Ao21 t202.length co21)) (fun _ hk => hk.2) (.int .i64 t205)) (fun _ hk => hk.2) (.slice Ao24 t206.length co24)) (fun _ hk => hk.2) (.slice Ao25 t209.length co25)) (fun _ hk => hk.2) (.slice Ao26 t212.length co26)) (fun _ hk => hk.2) (.slice Ao27 t215.length co27)) (fun _ h_ => h_.1)) (fun _ h_ => h_.1))) hb); have n2_ := Aside0.mk (Kd.R_below (by (with_reducible repeat (first | apply Kd.R_alloc | apply Kd.R_drewN | apply Kd.R_drew)); exact (Kd.R_mono (Kd.R_mono (Kd.R_far (p := ⟨gb219, 4, none⟩) (Kd.R_far (p := ⟨gb219, 3, none⟩) (Kd.R_far (p := ⟨gb219, 2, none⟩) (Kd.R_far (p := ⟨gb219, 1, none⟩) (Kd.R_far (p := ⟨gb219, 0, none⟩) (Kd.R_far (p := ⟨gb218, 4, none⟩) (Kd.R_far (p := ⟨gb218, 3, none⟩) (Kd.R_far (p := ⟨gb218, 2, none⟩) (Kd.R_far (p := ⟨gb218, 1, none⟩) (Kd.R_far (p := ⟨gb218, 0, none⟩) (Kd.R_types (Kd.R_types HO198.out BK218.out (by decide)) BK219.out (by decide)) (fun _ hk => hk.1.2) (.slice Ao14 t190.length co14)) (fun _ hk => hk.1.2) (.slice Ao18 t193.length co18)) (fun _ hk => hk.1.2) (.slice Ao19 t196.length co19)) (fun _ hk => hk.1.2) (.slice Ao20 t199.length co20)) (fun _ hk => hk.1.2) (.slice Ao21 t202.length co21)) (fun _ hk => hk.2) (.int .i64 t205)) (fun _ hk => hk.2) (.slice Ao24 t206.length co24)) (fun _ hk => hk.2) (.slice Ao25 t209.length co25)) (fun _ hk => hk.2) (.slice Ao26 t212.length co26)) (fun _ hk => hk.2) (.slice Ao27 t215.length co27)) (fun _ h_ => h_.1)) (fun _ h_ => h_.1))) hb); have n3_ := Aside0.mk (Kd.R_below (by (with_reducible repeat (first | apply Kd.R_alloc | apply Kd.R_drewN | apply Kd.R_drew)); exact (Kd.R_mono (Kd.R_mono (Kd.R_far (p := ⟨gb219, 4, none⟩) (Kd.R_far (p := ⟨gb219, 3, none⟩) (Kd.R_far (p := ⟨gb219, 2, none⟩) (Kd.R_far (p := ⟨gb219, 1, none⟩) (Kd.R_far (p := ⟨gb219, 0, none⟩) (Kd.R_far (p := ⟨gb218, 4, none⟩) (Kd.R_far (p := ⟨gb218, 3, none⟩) (Kd.R_far (p := ⟨gb218, 2, none⟩) (Kd.R_far (p := ⟨gb218, 1, none⟩) (Kd.R_far (p := ⟨gb218, 0, none⟩) (Kd.R_types (Kd.R_types HO201.out BK218.out (by decide)) BK219.out (by decide)) (fun _ hk => hk.1.2) (.slice Ao14 t190.length co14)) (fun _ hk => hk.1.2) (.slice Ao18 t193.length co18)) (fun _ hk => hk.1.2) (.slice Ao19 t196.length co19)) (fun _ hk => hk.1.2) (.slice Ao20 t199.length co20)) (fun _ hk => hk.1.2) (.slice Ao21 t202.length co21)) (fun _ hk => hk.2) (.int .i64 t205)) (fun _ hk => hk.2) (.slice Ao24 t206.length co24)) (fun _ hk => hk.2) (.slice Ao25 t209.length co25)) (fun _ hk => hk.2) (.slice Ao26 t212.length co26)) (fun _ hk => hk.2) (.slice Ao27 t215.length co27)) (fun _ h_ => h_.1)) (fun _ h_ => h_.1))) hb); have n4_ := Aside0.mk (Kd.R_below (by (with_reducible repeat (first | apply Kd.R_alloc | apply Kd.R_drewN | apply Kd.R_drew)); exact (Kd.R_mono (Kd.R_mono (Kd.R_far (p := ⟨gb219, 4, none⟩) (Kd.R_far (p := ⟨gb219, 3, none⟩) (Kd.R_far (p := ⟨gb219, 2, none⟩) (Kd.R_far (p := ⟨gb219, 1, none⟩) (Kd.R_far (p := ⟨gb219, 0, none⟩) (Kd.R_far (p := ⟨gb218, 4, none⟩) (Kd.R_far (p := ⟨gb218, 3, none⟩) (Kd.R_far (p := ⟨gb218, 2, none⟩) (Kd.R_far (p := ⟨gb218, 1, none⟩) (Kd.R_far (p := ⟨gb218, 0, none⟩) (Kd.R_types (Kd.R_types HO204.out BK218.out (by decide)) BK219.out (by decide)) (fun _ hk => hk.1.2) (.slice Ao14 t190.length co14)) (fun _ hk => hk.1.2) (.slice Ao18 t193.length co18)) (fun _ hk => hk.1.2) (.slice Ao19 t196.length co19)) (fun _ hk => hk.1.2) (.slice Ao20 t199.length co20)) (fun _ hk => hk.1.2) (.slice Ao21 t202.length co21)) (fun _ hk => hk.2) (.int .i64 t205)) (fun _ hk => hk.2) (.slice Ao24 t206.length co24)) (fun _ hk => hk.2) (.slice Ao25 t209.length co25)) (fun _ hk => hk.2) (.slice Ao26 t212.length co26)) (fun _ hk => hk.2) (.slice Ao27 t215.length co27)) (fun _ h_ => h_.1)) (fun _ h_ => h_.1))) hb); have n5_ := Aside0.mk (Kd.R_below (by (with_reducible repeat (first | apply Kd.R_alloc | apply Kd.R_drewN | apply Kd.R_drew)); exact (Kd.R_mono (Kd.R_mono (Kd.R_far (p := ⟨gb219, 4, none⟩) (Kd.R_far (p := ⟨gb219, 3, none⟩) (Kd.R_far (p := ⟨gb219, 2, none⟩) (Kd.R_far (p := ⟨gb219, 1, none⟩) (Kd.R_far (p := ⟨gb219, 0, none⟩) (Kd.R_far (p := ⟨gb218, 4, none⟩) (Kd.R_far (p := ⟨gb218, 3, none⟩) (Kd.R_far (p := ⟨gb218, 2, none⟩) (Kd.R_far (p := ⟨gb218, 1, none⟩) (Kd.R_far (p := ⟨gb218, 0, none⟩) (Kd.R_types (Kd.R_types HO208.out BK218.out (by decide)) BK219.out (by decide)) (fun _ hk => hk.1.2) (.slice Ao14 t190.length co14)) (fun _ hk => hk.1.2) (.slice Ao18 t193.length co18)) (fun _ hk => hk.1.2) (.slice Ao19 t196.length co19)) (fun _ hk => hk.1.2) (.slice Ao20 t199.length co20)) (fun _ hk => hk.1.2) (.slice Ao21 t202.length co21)) (fun _ hk => hk.2) (.int .i64 t205)) (fun _ hk => hk.2) (.slice Ao24 t206.length co24)) (fun _ hk => hk.2) (.slice Ao25 t209.length co25)) (fun _ hk => hk.2) (.slice Ao26 t212.length co26)) (fun _ hk => hk.2) (.slice Ao27 t215.length co27)) (fun _ h_ => h_.1)) (fun _ h_ => h_.1))) hb); have n6_ := Aside0.mk (Kd.R_below (by (with_reducible repeat (first | apply Kd.R_alloc | apply Kd.R_drewN | apply Kd.R_drew)); exact (Kd.R_mono (Kd.R_mono (Kd.R_far (p := ⟨gb219, 4, none⟩) (Kd.R_far (p := ⟨gb219, 3, none⟩) (Kd.R_far (p := ⟨gb219, 2, none⟩) (Kd.R_far (p := ⟨gb219, 1, none⟩) (Kd.R_far (p := ⟨gb219, 0, none⟩) (Kd.R_far (p := ⟨gb218, 4, none⟩) (Kd.R_far (p := ⟨gb218, 3, none⟩) (Kd.R_far (p := ⟨gb218, 2, none⟩) (Kd.R_far (p := ⟨gb218, 1, none⟩) (Kd.R_far (p := ⟨gb218, 0, none⟩) (Kd.R_types (Kd.R_types HO211.out BK218.out (by decide)) BK219.out (by decide)) (fun _ hk => hk.1.2) (.slice Ao14 t190.length co14)) (fun _ hk => hk.1.2) (.slice Ao18 t193.length co18)) (fun _ hk => hk.1.2) (.slice Ao19 t196.length co19)) (fun _ hk => hk.1.2) (.slice Ao20 t199.length co20)) (fun _ hk => hk.1.2) (.slice Ao21 t202.length co21)) (fun _ hk => hk.2) (.int .i64 t205)) (fun _ hk => hk.2) (.slice Ao24 t206.length co24)) (fun _ hk => hk.2) (.slice Ao25 t209.length co25)) (fun _ hk => hk.2) (.slice Ao26 t212.length co26)) (fun _ hk => hk.2) (.slice Ao27 t215.length co27)) (fun _ h_ => h_.1)) (fun _ h_ => h_.1))) hb); have n7_ := Aside0.mk (Kd.R_below (by (with_reducible repeat (first | apply Kd.R_alloc | apply Kd.R_drewN | apply Kd.R_drew)); exact (Kd.R_mono (Kd.R_mono (Kd.R_far (p := ⟨gb219, 4, none⟩) (Kd.R_far (p := ⟨gb219, 3, none⟩) (Kd.R_far (p := ⟨gb219, 2, none⟩) (Kd.R_far (p := ⟨gb219, 1, none⟩) (Kd.R_far (p := ⟨gb219, 0, none⟩) (Kd.R_far (p := ⟨gb218, 4, none⟩) (Kd.R_far (p := ⟨gb218, 3, none⟩) (Kd.R_far (p := ⟨gb218, 2, none⟩) (Kd.R_far (p := ⟨gb218, 1, none⟩) (Kd.R_far (p := ⟨gb218, 0, none⟩) (Kd.R_types (Kd.R_types HO214.out BK218.out (by decide)) BK219.out (by decide)) (fun _ hk => hk.1.2) (.slice Ao14 t190.length co14)) (fun _ hk => hk.1.2) (.slice Ao18 t193.length co18)) (fun _ hk => hk.1.2) (.slice Ao19 t196.length co19)) (fun _ hk => hk.1.2) (.slice Ao20 t199.length co20)) (fun _ hk => hk.1.2) (.slice Ao21 t202.length co21)) (fun _ hk => hk.2) (.int .i64 t205)) (fun _ hk => hk.2) (.slice Ao24 t206.length co24)) (fun _ hk => hk.2) (.slice Ao25 t209.length co25)) (fun _ hk => hk.2) (.slice Ao26 t212.length co26)) (fun _ hk => hk.2) (.slice Ao27 t215.length co27)) (fun _ h_ => h_.1)) (fun _ h_ => h_.1))) hb); have n8_ := Aside0.mk (Kd.R_below (by (with_reducible repeat (first | apply Kd.R_alloc | apply Kd.R_drewN | apply Kd.R_drew)); exact (Kd.R_mono (Kd.R_mono (Kd.R_far (p := ⟨gb219, 4, none⟩) (Kd.R_far (p := ⟨gb219, 3, none⟩) (Kd.R_far (p := ⟨gb219, 2, none⟩) (Kd.R_far (p := ⟨gb219, 1, none⟩) (Kd.R_far (p := ⟨gb219, 0, none⟩) (Kd.R_far (p := ⟨gb218, 4, none⟩) (Kd.R_far (p := ⟨gb218, 3, none⟩) (Kd.R_far (p := ⟨gb218, 2, none⟩) (Kd.R_far (p := ⟨gb218, 1, none⟩) (Kd.R_far (p := ⟨gb218, 0, none⟩) (Kd.R_types (Kd.R_types HO217.out BK218.out (by decide)) BK219.out (by decide)) (fun _ hk => hk.1.2) (.slice Ao14 t190.length co14)) (fun _ hk => hk.1.2) (.slice Ao18 t193.length co18)) (fun _ hk => hk.1.2) (.slice Ao19 t196.length co19)) (fun _ hk => hk.1.2) (.slice Ao20 t199.length co20)) (fun _ hk => hk.1.2) (.slice Ao21 t202.length co21)) (fun _ hk => hk.2) (.int .i64 t205)) (fun _ hk => hk.2) (.slice Ao24 t206.length co24)) (fun _ hk => hk.2) (.slice Ao25 t209.length co25)) (fun _ hk => hk.2) (.slice Ao26 t212.length co26)) (fun _ hk => hk.2) (.slice Ao27 t215.length co27)) (fun _ h_ => h_.1)) (fun _ h_ => h_.1))) hb); have n9_ := Aside0.mk (Kd.S_lower ho0 (below_size (by repeat (first | (with_reducible first | exact HB.out | apply below_alloc | apply pw_below_drewN | apply below_drew1 | refine below_set ?_ GE188.out | refine below_set ?_ GE218.out | refine below_set ?_ GE219.out) | exact HB.out)))); have n10_ := Aside0.mk (blk_below (g := gb188) (o := .cells #[.slice A0_0 l0_0.length c0_0, .slice A0_1 l0_1.length c0_1, .slice A0_2 l0_2.length c0_2, .slice A0_3 l0_3.length c0_3, .slice A0_4 l0_4.length c0_4, .int .i64 a0_5, .slice A0_6 l0_6.length c0_6, .slice A0_7 l0_7.length c0_7, .slice A0_8 l0_8.length c0_8, .slice A0_9 l0_9.length c0_9, .slice A0_10 l0_10.length c0_10, .slice A0_11 l0_11.length c0_11, .string a0_12] 61 (0, 0)) (by (with_reducible repeat (first | refine blk_drewN ?_ _ | refine blk_drew ?_ | refine blk_alloc ?_ _)); refine blk_far ?_ NB188_219.out _; (with_reducible repeat (first | refine blk_drewN ?_ _ | refine blk_drew ?_ | refine blk_alloc ?_ _)); refine blk_far ?_ NB188_219.out _; (with_reducible repeat (first | refine blk_drewN ?_ _ | refine blk_drew ?_ | refine blk_alloc ?_ _)); refine blk_far ?_ NB188_219.out _; (with_reducible repeat (first | refine blk_drewN ?_ _ | refine blk_drew ?_ | refine blk_alloc ?_ _)); refine blk_far ?_ NB188_219.out _; (with_reducible repeat (first | refine blk_drewN ?_ _ | refine blk_drew ?_ | refine blk_alloc ?_ _)); refine blk_far ?_ NB188_219.out _; (with_reducible repeat (first | refine blk_drewN ?_ _ | refine blk_drew ?_ | refine blk_alloc ?_ _)); refine blk_far ?_ NB188_218.out _; (with_reducible repeat (first | refine blk_drewN ?_ _ | refine blk_drew ?_ | refine blk_alloc ?_ _)); refine blk_far ?_ NB188_218.out _; (with_reducible repeat (first | refine blk_drewN ?_ _ | refine blk_drew ?_ | refine blk_alloc ?_ _)); refine blk_far ?_ NB188_218.out _; (with_reducible repeat (first | refine blk_drewN ?_ _ | refine blk_drew ?_ | refine blk_alloc ?_ _)); refine blk_far ?_ NB188_218.out _; (with_reducible repeat (first | refine blk_drewN ?_ _ | refine blk_drew ?_ | refine blk_alloc ?_ _)); refine blk_far ?_ NB188_218.out _; (with_reducible repeat (first | refine blk_drewN ?_ _ | refine blk_drew ?_ | refine blk_alloc ?_ _)); exact BK188.out) hb); have n11_ := Aside0.mk (blk_below (g := gb218) (o := .cells #[.slice Ao14 t190.length co14, .slice Ao18 t193.length co18, .slice Ao19 t196.length co19, .slice Ao20 t199.length co20, .slice Ao21 t202.length co21] 27 (0, 0)) (by (with_reducible repeat (first | refine blk_drewN ?_ _ | refine blk_drew ?_ | refine blk_alloc ?_ _)); refine blk_far ?_ NB218_219.out _; (with_reducible repeat (first | refine blk_drewN ?_ _ | refine blk_drew ?_ | refine blk_alloc ?_ _)); refine blk_far ?_ NB218_219.out _; (with_reducible repeat (first | refine blk_drewN ?_ _ | refine blk_drew ?_ | refine blk_alloc ?_ _)); refine blk_far ?_ NB218_219.out _; (with_reducible repeat (first | refine blk_drewN ?_ _ | refine blk_drew ?_ | refine blk_alloc ?_ _)); refine blk_far ?_ NB218_219.out _; (with_reducible repeat (first | refine blk_drewN ?_ _ | refine blk_drew ?_ | refine blk_alloc ?_ _)); refine blk_far ?_ NB218_219.out _; (with_reducible repeat (first | refine blk_drewN ?_ _ | refine blk_drew ?_ | refine blk_alloc ?_ _)); refine blk_put (cs := #[.slice Ao14 t190.length co14, .slice Ao18 t193.length co18, .slice Ao19 t196.length co19, .slice Ao20 t199.length co20, .slice none 0 0]) ?_ 4 _ rfl; (with_reducible repeat (first | refine blk_drewN ?_ _ | refine blk_drew ?_ | refine blk_alloc ?_ _)); refine blk_put (cs := #[.slice Ao14 t190.length co14, .slice Ao18 t193.length co18, .slice Ao19 t196.length co19, .slice none 0 0, .slice none 0 0]) ?_ 3 _ rfl; (with_reducible repeat (first | refine blk_drewN ?_ _ | refine blk_drew ?_ | refine blk_alloc ?_ _)); refine blk_put (cs := #[.slice Ao14 t190.length co14, .slice Ao18 t193.length co18, .slice none 0 0, .slice none 0 0, .slice none 0 0]) ?_ 2 _ rfl; (with_reducible repeat (first | refine blk_drewN ?_ _ | refine blk_drew ?_ | refine blk_alloc ?_ _)); refine blk_put (cs := #[.slice Ao14 t190.length co14, .slice none 0 0, .slice none 0 0, .slice none 0 0, .slice none 0 0]) ?_ 1 _ rfl; (with_reducible repeat (first | refine blk_drewN ?_ _ | refine blk_drew ?_ | refine blk_alloc ?_ _)); refine blk_put (cs := #[.slice none 0 0, .slice none 0 0, .slice none 0 0, .slice none 0 0, .slice none 0 0]) ?_ 0 _ rfl; (with_reducible repeat (first | refine blk_drewN ?_ _ | refine blk_drew ?_ | refine blk_alloc ?_ _)); exact BK218.out) hb); have n12_ := Aside0.mk (blk_below (g := gb219) (o := .cells #[.int .i64 t205, .slice Ao24 t206.length co24, .slice Ao25 t209.length co25, .slice Ao26 t212.length co26, .slice Ao27 t215.length co27] 53 (0, 0)) (by (with_reducible repeat (first | refine blk_drewN ?_ _ | refine blk_drew ?_ | refine blk_alloc ?_ _)); refine blk_put (cs := #[.int .i64 t205, .slice Ao24 t206.length co24, .slice Ao25 t209.length co25, .slice Ao26 t212.length co26, .slice none 0 0]) ?_ 4 _ rfl; (with_reducible repeat (first | refine blk_drewN ?_ _ | refine blk_drew ?_ | refine blk_alloc ?_ _)); refine blk_put (cs := #[.int .i64 t205, .slice Ao24 t206.length co24, .slice Ao25 t209.length co25, .slice none 0 0, .slice none 0 0]) ?_ 3 _ rfl; (with_reducible repeat (first | refine blk_drewN ?_ _ | refine blk_drew ?_ | refine blk_alloc ?_ _)); refine blk_put (cs := #[.int .i64 t205, .slice Ao24 t206.length co24, .slice none 0 0, .slice none 0 0, .slice none 0 0]) ?_ 2 _ rfl; (with_reducible repeat (first | refine blk_drewN ?_ _ | refine blk_drew ?_ | refine blk_alloc ?_ _)); refine blk_put (cs := #[.int .i64 t205, .slice none 0 0, .slice none 0 0, .slice none 0 0, .slice none 0 0]) ?_ 1 _ rfl; (with_reducible repeat (first | refine blk_drewN ?_ _ | refine blk_drew ?_ | refine blk_alloc ?_ _)); refine blk_put (cs := #[.int .i64 0, .slice none 0 0, .slice none 0 0, .slice none 0 0, .slice none 0 0]) ?_ 0 _ rfl; (with_reducible repeat (first | refine blk_drewN ?_ _ | refine blk_drew ?_ | refine blk_alloc ?_ _)); refine blk_far ?_ NB219_218.out _; (with_reducible repeat (first | refine blk_drewN ?_ _ | refine blk_drew ?_ | refine blk_alloc ?_ _)); refine blk_far ?_ NB219_218.out _; (with_reducible repeat (first | refine blk_drewN ?_ _ | refine blk_drew ?_ | refine blk_alloc ?_ _)); refine blk_far ?_ NB219_218.out _; (with_reducible repeat (first | refine blk_drewN ?_ _ | refine blk_drew ?_ | refine blk_alloc ?_ _)); refine blk_far ?_ NB219_218.out _; (with_reducible repeat (first | refine blk_drewN ?_ _ | refine blk_drew ?_ | refine blk_alloc ?_ _)); refine blk_far ?_ NB219_218.out _; (with_reducible repeat (first | refine blk_drewN ?_ _ | refine blk_drew ?_ | refine blk_alloc ?_ _)); exact BK219.out) hb); have n13_ := Aside0.mk (below_step (by repeat (first | (with_reducible first | exact HB.out | apply below_alloc | apply pw_below_drewN | apply below_drew1 | refine below_set ?_ GE188.out | refine below_set ?_ GE218.out | refine below_set ?_ GE219.out) | exact HB.out)) hb); clear HO192; clear HO195; clear HO198; clear HO201; clear HO204; clear HO208; clear HO211; clear HO214; clear HO217; clear BK188; clear BK218; clear BK219; clear HB; have HO192 := n0_; have HO195 := n1_; have HO198 := n2_; have HO201 := n3_; have HO204 := n4_; have HO208 := n5_; have HO211 := n6_; have HO214 := n7_; have HO217 := n8_; have HO222 := n9_; have BK188 := n10_; have BK218 := n11_; have BK219 := n12_; have HB := n13_; clear n0_ n1_ n2_ n3_ n4_ n5_ n6_ n7_ n8_ n9_ n10_ n11_ n12_ n13_; (try clear hb); (try clear hb2); (try clear hk); (try clear hi); (try clear ho0); have hcz30_0 : w29.cell? ⟨gb218, 0, none⟩ = some (.slice Ao14 t190.length co14) := (blk_cell BK218.out 0).trans rfl; have hcz30_1 : w29.cell? ⟨gb218, 1, none⟩ = some (.slice Ao18 t193.length co18) := (blk_cell BK218.out 1).trans rfl; have hcz30_2 : w29.cell? ⟨gb218, 2, none⟩ = some (.slice Ao19 t196.length co19) := (blk_cell BK218.out 2).trans rfl; have hcz30_3 : w29.cell? ⟨gb218, 3, none⟩ = some (.slice Ao20 t199.length co20) := (blk_cell BK218.out 3).trans rfl; have hcz30_4 : w29.cell? ⟨gb218, 4, none⟩ = some (.slice Ao21 t202.length co21) := (blk_cell BK218.out 4).trans rfl; have hfz30_0 := blk_frozen BK218.out 0; have hfz30_1 := blk_frozen BK218.out 1; have hfz30_2 := blk_frozen BK218.out 2; have hfz30_3 := blk_frozen BK218.out 3; have hfz30_4 := blk_frozen BK218.out 4; obtain ⟨Ao31, co31, eo31⟩ := Kd.S_slice HO222.out; subst eo31) | ((with_reducible refine gate_callee (f := 29) rfl ?_); refine goesL_ (some 26) rfl rfl Tryd.func29 (by kernel_rfl) rfl #[.agg #[.slice Ao14 t190.length co14, .slice Ao18 t193.length co18, .slice Ao19 t196.length co19, .slice Ao20 t199.length co20, .slice Ao21 t202.length co21], .slice Ao31 t220.length co31] rfl (by (try simp only [List.map_toArray, List.map_cons, List.map_nil]); first | done | rfl | (simp only [List.length_drop, List.length_take]; rfl)) ?_; (with_reducible refine (lift_Trace.calls _ _ t190 _ _ t193 _ _ t196 _ _ t199 _ _ t202 _ _ t220 t223 _ (by first | exact HG.out | (refine tab_below HG.out ?_; repeat (first | (with_reducible first | exact HB.out | apply below_alloc | apply pw_below_drewN | apply below_drew1 | refine below_set ?_ GE188.out | refine below_set ?_ GE218.out | refine below_set ?_ GE219.out) | exact HB.out)) | (refine tab_drawn HG.out ?_; repeat (first | exact Drawn0.refl _ | apply drawn_drewN | apply drawn_drew))) ?side1 ?side2 ?side3 ?side4 ?side5 ?side6 ?side7 ?side8 ?side9 ?side10 ?side11 ?side12 A6.out).mono ?_); (case side1 => repeat (first | exact (Kd.R_reads' HO192.out).2.2 | (with_reducible refine Kd.C_alloc ?_ _) | (with_reducible refine Kd.C_drewN ?_ _) | (with_reducible refine Kd.C_drew ?_))); (case side2 => exact (Kd.R_reads' HO192.out).2.1); (case side3 => repeat (first | exact (Kd.R_reads' HO195.out).2.2 | (with_reducible refine Kd.C_alloc ?_ _) | (with_reducible refine Kd.C_drewN ?_ _) | (with_reducible refine Kd.C_drew ?_))); (case side4 => exact (Kd.R_reads' HO195.out).2.1); (case side5 => repeat (first | exact (Kd.R_reads' HO198.out).2.2 | (with_reducible refine Kd.C_alloc ?_ _) | (with_reducible refine Kd.C_drewN ?_ _) | (with_reducible refine Kd.C_drew ?_))); (case side6 => exact (Kd.R_reads' HO198.out).2.1); (case side7 => repeat (first | exact (Kd.R_reads' HO201.out).2.2 | (with_reducible refine Kd.C_alloc ?_ _) | (with_reducible refine Kd.C_drewN ?_ _) | (with_reducible refine Kd.C_drew ?_))); (case side8 => exact (Kd.R_reads' HO201.out).2.1); (case side9 => repeat (first | exact (Kd.R_reads' HO204.out).2.2 | (with_reducible refine Kd.C_alloc ?_ _) | (with_reducible refine Kd.C_drewN ?_ _) | (with_reducible refine Kd.C_drew ?_))); (case side10 => exact (Kd.R_reads' HO204.out).2.1); (case side11 => repeat (first | exact (Kd.S_reads' HO222.out).2.2 | (with_reducible refine Kd.C_alloc ?_ _) | (with_reducible refine Kd.C_drewN ?_ _) | (with_reducible refine Kd.C_drew ?_))); (case side12 => exact (Kd.S_reads' HO222.out).2.1); rintro e w32 ⟨rfl, hb⟩; refine ⟨_, rfl, ?_⟩; have n0_ := Aside0.mk (Kd.R_below (by (with_reducible repeat (first | apply Kd.R_alloc | apply Kd.R_drewN | apply Kd.R_drew)); exact HO192.out) hb); have n1_ := Aside0.mk (Kd.R_below (by (with_reducible repeat (first | apply Kd.R_alloc | apply Kd.R_drewN | apply Kd.R_drew)); exact HO195.out) hb); have n2_ := Aside0.mk (Kd.R_below (by (with_reducible repeat (first | apply Kd.R_alloc | apply Kd.R_drewN | apply Kd.R_drew)); exact HO198.out) hb); have n3_ := Aside0.mk (Kd.R_below (by (with_reducible repeat (first | apply Kd.R_alloc | apply Kd.R_drewN | apply Kd.R_drew)); exact HO201.out) hb); have n4_ := Aside0.mk (Kd.R_below (by (with_reducible repeat (first | apply Kd.R_alloc | apply Kd.R_drewN | apply Kd.R_drew)); exact HO204.out) hb); have n5_ := Aside0.mk (Kd.R_below (by (with_reducible repeat (first | apply Kd.R_alloc | apply Kd.R_drewN | apply Kd.R_drew)); exact HO208.out) hb); have n6_ := Aside0.mk (Kd.R_below (by (with_reducible repeat (first | apply Kd.R_alloc | apply Kd.R_drewN | apply Kd.R_drew)); exact HO211.out) hb); have n7_ := Aside0.mk (Kd.R_below (by (with_reducible repeat (first | apply Kd.R_alloc | apply Kd.R_drewN | apply Kd.R_drew)); exact HO214.out) hb); have n8_ := Aside0.mk (Kd.R_below (by (with_reducible repeat (first | apply Kd.R_alloc | apply Kd.R_drewN | apply Kd.R_drew)); exact HO217.out) hb); have n9_ := Aside0.mk (Kd.S_below (by (with_reducible repeat (first | apply Kd.S_alloc | apply Kd.S_drewN | apply Kd.S_drew)); exact HO222.out) hb); have n10_ := Aside0.mk (blk_below (g := gb188) (o := .cells #[.slice A0_0 l0_0.length c0_0, .slice A0_1 l0_1.length c0_1, .slice A0_2 l0_2.length c0_2, .slice A0_3 l0_3.length c0_3, .slice A0_4 l0_4.length c0_4, .int .i64 a0_5, .slice A0_6 l0_6.length c0_6, .slice A0_7 l0_7.length c0_7, .slice A0_8 l0_8.length c0_8, .slice A0_9 l0_9.length c0_9, .slice A0_10 l0_10.length c0_10, .slice A0_11 l0_11.length c0_11, .string a0_12] 61 (0, 0)) (by (with_reducible repeat (first | refine blk_drewN ?_ _ | refine blk_drew ?_ | refine blk_alloc ?_ _)); exact BK188.out) hb); have n11_ := Aside0.mk (blk_below (g := gb218) (o := .cells #[.slice Ao14 t190.length co14, .slice Ao18 t193.length co18, .slice Ao19 t196.length co19, .slice Ao20 t199.length co20, .slice Ao21 t202.length co21] 27 (0, 0)) (by (with_reducible repeat (first | refine blk_drewN ?_ _ | refine blk_drew ?_ | refine blk_alloc ?_ _)); exact BK218.out) hb); have n12_ := Aside0.mk (blk_below (g := gb219) (o := .cells #[.int .i64 t205, .slice Ao24 t206.length co24, .slice Ao25 t209.length co25, .slice Ao26 t212.length co26, .slice Ao27 t215.length co27] 53 (0, 0)) (by (with_reducible repeat (first | refine blk_drewN ?_ _ | refine blk_drew ?_ | refine blk_alloc ?_ _)); exact BK219.out) hb); have n13_ := Aside0.mk (below_step (by repeat (first | (with_reducible first | exact HB.out | apply below_alloc | apply pw_below_drewN | apply below_drew1 | refine below_set ?_ GE188.out | refine below_set ?_ GE218.out | refine below_set ?_ GE219.out) | exact HB.out)) hb); clear HO192; clear HO195; clear HO198; clear HO201; clear HO204; clear HO208; clear HO211; clear HO214; clear HO217; clear HO222; clear BK188; clear BK218; clear BK219; clear HB; have HO192 := n0_; have HO195 := n1_; have HO198 := n2_; have HO201 := n3_; have HO204 := n4_; have HO208 := n5_; have HO211 := n6_; have HO214 := n7_; have HO217 := n8_; have HO222 := n9_; have BK188 := n10_; have BK218 := n11_; have BK219 := n12_; have HB := n13_; clear n0_ n1_ n2_ n3_ n4_ n5_ n6_ n7_ n8_ n9_ n10_ n11_ n12_ n13_; (try clear hb); (try clear hb2); (try clear hk); (try clear hi)))
  (try simp only [Act.put, List.setIfInBounds_toArray, List.set_cons_zero, List.set_cons_succ])
  go_cut [38] (fun v38 wc => ∃ (kq : Nat) (x38_6 : Bool), v38 = .bool x38_6 ∧ Aside0 (proofmarklaw27_LiftLines.j0 kq a1 t189 t220 t223 x38_6 t190 t193 t196 t199 t202 = some r) ∧ Aside0 (kq ≤ k) ∧ Aside0 (Kd.S (Kd.slice 3 (Kd.int .i64)) 55 wc w.heap.size (fun _ => True) (.slice Ao31 t220.length co31) t220) ∧ Aside0 (Kd.R k96 96 wc w.heap.size (fun _ => True) (.slice Ao14 t190.length co14) t190) ∧ Aside0 (Kd.R k111 111 wc w.heap.size (fun k_ => some k_ ≠ ((.slice Ao21 t202.length co21) : Value).ownBlock) (.slice Ao18 t193.length co18) t193) ∧ Aside0 (Kd.R k94 94 wc w.heap.size (fun _ => True) (.slice Ao19 t196.length co19) t196) ∧ Aside0 (Kd.R k73 73 wc w.heap.size (fun _ => True) (.slice Ao20 t199.length co20) t199) ∧ Aside0 (Kd.R k111 111 wc w.heap.size (fun k_ => some k_ ≠ ((.slice Ao18 t193.length co18) : Value).ownBlock) (.slice Ao21 t202.length co21) t202) ∧ Aside0 (Kd.R k201 201 wc w.heap.size (fun _ => True) (.slice Ao24 t206.length co24) t206) ∧ Aside0 (Kd.R k202 202 wc w.heap.size (fun _ => True) (.slice Ao25 t209.length co25) t209) ∧ Aside0 (Kd.R k98 98 wc w.heap.size (fun _ => True) (.slice Ao26 t212.length co26) t212) ∧ Aside0 (Kd.R k204 204 wc w.heap.size (fun _ => True) (.slice Ao27 t215.length co27) t215) ∧ Aside0 (wc.heap[gb188]? = some (.cells #[(.slice A0_0 l0_0.length c0_0), (.slice A0_1 l0_1.length c0_1), (.slice A0_2 l0_2.length c0_2), (.slice A0_3 l0_3.length c0_3), (.slice A0_4 l0_4.length c0_4), .int .i64 a0_5, (.slice A0_6 l0_6.length c0_6), (.slice A0_7 l0_7.length c0_7), (.slice A0_8 l0_8.length c0_8), (.slice A0_9 l0_9.length c0_9), (.slice A0_10 l0_10.length c0_10), (.slice A0_11 l0_11.length c0_11), .string a0_12] 61 (0, 0))) ∧ Aside0 (wc.heap[gb218]? = some (.cells #[(.slice Ao14 t190.length co14), (.slice Ao18 t193.length co18), (.slice Ao19 t196.length co19), (.slice Ao20 t199.length co20), (.slice Ao21 t202.length co21)] 27 (0, 0))) ∧ Aside0 (wc.heap[gb219]? = some (.cells #[.int .i64 t205, (.slice Ao24 t206.length co24), (.slice Ao25 t209.length co25), (.slice Ao26 t212.length co26), (.slice Ao27 t215.length co27)] 53 (0, 0))) ∧ Aside0 (Below w.heap.size w wc))
  case first =>
    have H := HC7.out
    clear HC7
    by_cases c33 : t223.toList = ([] : List UInt8)
    · rw [if_pos c33] at H
      have c33b0 : (t223.toList == ([] : List UInt8)) = true := beq_iff_eq.mpr c33
      have c33b1 : (t223.toList != ([] : List UInt8)) = false := bne_eq_false_iff_eq.mpr c33
      clear c33
      (first | rw [c33b0] | (simp only [i64_w, i32_w]; rw [c33b0]) | skip)
      have H' := Aside0.mk H
      clear H
      go_wp2
      go_meet
      case rel => exact ⟨_, (true), (by first | rfl | (simp; done) | (simp [*]; done)), H', ⟨by first | omega | exact Nat.le_refl _⟩, ⟨by (with_reducible repeat (first | apply Kd.S_alloc | apply Kd.S_drewN | apply Kd.S_drew)); exact HO222.out⟩, ⟨by (with_reducible repeat (first | apply Kd.R_alloc | apply Kd.R_drewN | apply Kd.R_drew)); exact HO192.out⟩, ⟨by (with_reducible repeat (first | apply Kd.R_alloc | apply Kd.R_drewN | apply Kd.R_drew)); exact HO195.out⟩, ⟨by (with_reducible repeat (first | apply Kd.R_alloc | apply Kd.R_drewN | apply Kd.R_drew)); exact HO198.out⟩, ⟨by (with_reducible repeat (first | apply Kd.R_alloc | apply Kd.R_drewN | apply Kd.R_drew)); exact HO201.out⟩, ⟨by (with_reducible repeat (first | apply Kd.R_alloc | apply Kd.R_drewN | apply Kd.R_drew)); exact HO204.out⟩, ⟨by (with_reducible repeat (first | apply Kd.R_alloc | apply Kd.R_drewN | apply Kd.R_drew)); exact HO208.out⟩, ⟨by (with_reducible repeat (first | apply Kd.R_alloc | apply Kd.R_drewN | apply Kd.R_drew)); exact HO211.out⟩, ⟨by (with_reducible repeat (first | apply Kd.R_alloc | apply Kd.R_drewN | apply Kd.R_drew)); exact HO214.out⟩, ⟨by (with_reducible repeat (first | apply Kd.R_alloc | apply Kd.R_drewN | apply Kd.R_drew)); exact HO217.out⟩, ⟨by (with_reducible repeat (first | refine blk_drewN ?_ _ | refine blk_drew ?_ | refine blk_alloc ?_ _)); exact BK188.out⟩, ⟨by (with_reducible repeat (first | refine blk_drewN ?_ _ | refine blk_drew ?_ | refine blk_alloc ?_ _)); exact BK218.out⟩, ⟨by (with_reducible repeat (first | refine blk_drewN ?_ _ | refine blk_drew ?_ | refine blk_alloc ?_ _)); exact BK219.out⟩, ⟨by repeat (first | (with_reducible first | exact HB.out | apply below_alloc | apply pw_below_drewN | apply below_drew1 | refine below_set ?_ GE188.out | refine below_set ?_ GE218.out | refine below_set ?_ GE219.out) | exact HB.out)⟩⟩
    · rw [if_neg c33] at H
      have c33b0 : (t223.toList == ([] : List UInt8)) = false := beq_eq_false_iff_ne.mpr c33
      have c33b1 : (t223.toList != ([] : List UInt8)) = true := bne_iff_ne.mpr c33
      (first | rw [c33b0] | (simp only [i64_w, i32_w]; rw [c33b0]) | skip)
      by_cases c34 : a1 < 0
      · rw [if_pos c34] at H
        have c34b0 : decide (a1 < 0) = true := decide_eq_true c34
        clear c34
        have H' := Aside0.mk H
        clear H
        go_wp2
        go_meet
        case rel => exact ⟨_, (true), (by first | rfl | (simp; done) | (simp [*]; done)), H', ⟨by first | omega | exact Nat.le_refl _⟩, ⟨by (with_reducible repeat (first | apply Kd.S_alloc | apply Kd.S_drewN | apply Kd.S_drew)); exact HO222.out⟩, ⟨by (with_reducible repeat (first | apply Kd.R_alloc | apply Kd.R_drewN | apply Kd.R_drew)); exact HO192.out⟩, ⟨by (with_reducible repeat (first | apply Kd.R_alloc | apply Kd.R_drewN | apply Kd.R_drew)); exact HO195.out⟩, ⟨by (with_reducible repeat (first | apply Kd.R_alloc | apply Kd.R_drewN | apply Kd.R_drew)); exact HO198.out⟩, ⟨by (with_reducible repeat (first | apply Kd.R_alloc | apply Kd.R_drewN | apply Kd.R_drew)); exact HO201.out⟩, ⟨by (with_reducible repeat (first | apply Kd.R_alloc | apply Kd.R_drewN | apply Kd.R_drew)); exact HO204.out⟩, ⟨by (with_reducible repeat (first | apply Kd.R_alloc | apply Kd.R_drewN | apply Kd.R_drew)); exact HO208.out⟩, ⟨by (with_reducible repeat (first | apply Kd.R_alloc | apply Kd.R_drewN | apply Kd.R_drew)); exact HO211.out⟩, ⟨by (with_reducible repeat (first | apply Kd.R_alloc | apply Kd.R_drewN | apply Kd.R_drew)); exact HO214.out⟩, ⟨by (with_reducible repeat (first | apply Kd.R_alloc | apply Kd.R_drewN | apply Kd.R_drew)); exact HO217.out⟩, ⟨by (with_reducible repeat (first | refine blk_drewN ?_ _ | refine blk_drew ?_ | refine blk_alloc ?_ _)); exact BK188.out⟩, ⟨by (with_reducible repeat (first | refine blk_drewN ?_ _ | refine blk_drew ?_ | refine blk_alloc ?_ _)); exact BK218.out⟩, ⟨by (with_reducible repeat (first | refine blk_drewN ?_ _ | refine blk_drew ?_ | refine blk_alloc ?_ _)); exact BK219.out⟩, ⟨by repeat (first | (with_reducible first | exact HB.out | apply below_alloc | apply pw_below_drewN | apply below_drew1 | refine below_set ?_ GE188.out | refine below_set ?_ GE218.out | refine below_set ?_ GE219.out) | exact HB.out)⟩⟩
      · rw [if_neg c34] at H
        have c34b0 : decide (a1 < 0) = false := decide_eq_false c34
        clear c34
        have H' := Aside0.mk H
        clear H
        go_wp2
        go_meet
        case rel => exact ⟨_, (decide (a1 > (t220.length : Int))), (by first | rfl | (simp; done) | (simp [*]; done)), H', ⟨by first | omega | exact Nat.le_refl _⟩, ⟨by (with_reducible repeat (first | apply Kd.S_alloc | apply Kd.S_drewN | apply Kd.S_drew)); exact HO222.out⟩, ⟨by (with_reducible repeat (first | apply Kd.R_alloc | apply Kd.R_drewN | apply Kd.R_drew)); exact HO192.out⟩, ⟨by (with_reducible repeat (first | apply Kd.R_alloc | apply Kd.R_drewN | apply Kd.R_drew)); exact HO195.out⟩, ⟨by (with_reducible repeat (first | apply Kd.R_alloc | apply Kd.R_drewN | apply Kd.R_drew)); exact HO198.out⟩, ⟨by (with_reducible repeat (first | apply Kd.R_alloc | apply Kd.R_drewN | apply Kd.R_drew)); exact HO201.out⟩, ⟨by (with_reducible repeat (first | apply Kd.R_alloc | apply Kd.R_drewN | apply Kd.R_drew)); exact HO204.out⟩, ⟨by (with_reducible repeat (first | apply Kd.R_alloc | apply Kd.R_drewN | apply Kd.R_drew)); exact HO208.out⟩, ⟨by (with_reducible repeat (first | apply Kd.R_alloc | apply Kd.R_drewN | apply Kd.R_drew)); exact HO211.out⟩, ⟨by (with_reducible repeat (first | apply Kd.R_alloc | apply Kd.R_drewN | apply Kd.R_drew)); exact HO214.out⟩, ⟨by (with_reducible repeat (first | apply Kd.R_alloc | apply Kd.R_drewN | apply Kd.R_drew)); exact HO217.out⟩, ⟨by (with_reducible repeat (first | refine blk_drewN ?_ _ | refine blk_drew ?_ | refine blk_alloc ?_ _)); exact BK188.out⟩, ⟨by (with_reducible repeat (first | refine blk_drewN ?_ _ | refine blk_drew ?_ | refine blk_alloc ?_ _)); exact BK218.out⟩, ⟨by (with_reducible repeat (first | refine blk_drewN ?_ _ | refine blk_drew ?_ | refine blk_alloc ?_ _)); exact BK219.out⟩, ⟨by repeat (first | (with_reducible first | exact HB.out | apply below_alloc | apply pw_below_drewN | apply below_drew1 | refine below_set ?_ GE188.out | refine below_set ?_ GE218.out | refine below_set ?_ GE219.out) | exact HB.out)⟩⟩
  case rest =>
    clear HC7
    try clear c1
    try clear c2
    try clear p2
    try clear c3
    try clear c11
    try clear c15
    try clear c16
    try clear c22
    try clear c26
    try clear c27
    try clear c28
    try clear c29
    try clear c33
    try clear c33b0
    try clear c33b1
    try clear c34
    try clear c34b0
    try clear hcz10_0
    try clear hcz10_1
    try clear hcz10_10
    try clear hcz10_11
    try clear hcz10_12
    try clear hcz10_2
    try clear hcz10_3
    try clear hcz10_4
    try clear hcz10_5
    try clear hcz10_6
    try clear hcz10_7
    try clear hcz10_8
    try clear hcz10_9
    try clear hcz17_0
    try clear hcz17_1
    try clear hcz17_2
    try clear hcz17_3
    try clear hcz17_4
    try clear hcz23_0
    try clear hcz23_1
    try clear hcz23_2
    try clear hcz23_3
    try clear hcz23_4
    try clear hcz28_0
    try clear hcz28_1
    try clear hcz28_10
    try clear hcz28_11
    try clear hcz28_12
    try clear hcz28_2
    try clear hcz28_3
    try clear hcz28_4
    try clear hcz28_5
    try clear hcz28_6
    try clear hcz28_7
    try clear hcz28_8
    try clear hcz28_9
    try clear hcz30_0
    try clear hcz30_1
    try clear hcz30_2
    try clear hcz30_3
    try clear hcz30_4
    try clear hfz10_0
    try clear hfz10_1
    try clear hfz10_10
    try clear hfz10_11
    try clear hfz10_12
    try clear hfz10_2
    try clear hfz10_3
    try clear hfz10_4
    try clear hfz10_5
    try clear hfz10_6
    try clear hfz10_7
    try clear hfz10_8
    try clear hfz10_9
    try clear hfz17_0
    try clear hfz17_1
    try clear hfz17_2
    try clear hfz17_3
    try clear hfz17_4
    try clear hfz23_0
    try clear hfz23_1
    try clear hfz23_2
    try clear hfz23_3
    try clear hfz23_4
    try clear hfz28_0
    try clear hfz28_1
    try clear hfz28_10
    try clear hfz28_11
    try clear hfz28_12
    try clear hfz28_2
    try clear hfz28_3
    try clear hfz28_4
    try clear hfz28_5
    try clear hfz28_6
    try clear hfz28_7
    try clear hfz28_8
    try clear hfz28_9
    try clear hfz30_0
    try clear hfz30_1
    try clear hfz30_2
    try clear hfz30_3
    try clear hfz30_4
    obtain ⟨kq, x38_6, rfl, HA, HJ6, HO_8, HO_219000, HO_219001, HO_219002, HO_219003, HO_219004, HO_220001, HO_220002, HO_220003, HO_220004, BK188, BK218, BK219, HB⟩ := hcut
    cases kq with
    | zero => exact absurd HA.out (by simp [proofmarklaw27_LiftLines.j0])
    | succ kj6 =>
      have H := HA.out
      clear HA
      simp only [proofmarklaw27_LiftLines.j0] at H
      by_cases c35 : x38_6 = true
      · subst c35
        have H1 : (some t189) = some r := by rw [if_pos rfl] at H; exact H
        clear H
        have H := H1
        clear H1
        obtain rfl := Option.some.inj H
        go_wp2
        go_ret
        exact ⟨by first | rfl | (simp [errW_none, errW_some] <;> rfl) | (simp [*, errW_none, errW_some] <;> rfl), by repeat (first | (with_reducible first | exact HB.out | apply below_alloc | apply pw_below_drewN | apply below_drew1 | refine below_set ?_ GE188.out | refine below_set ?_ GE218.out | refine below_set ?_ GE219.out) | exact HB.out)⟩
      · replace c35 := Bool.eq_false_iff.mpr c35
        subst c35
        have H1 : (if 0 ≤ a1 then (if a1 ≤ (t220.length : Int) then ((lift_Trace.f t190 t193 t196 t199 t202 (t220.take (a1 : Int).toNat)).bind fun t228 => (if (t228.size : Int) > (t223.size : Int) then (proofmarklaw27_LiftLines.j1 kj6 a1 t189 t220 t223 t228 true t190 t193 t196 t199 t202) else (if 0 ≤ (t228.size : Int) then (if (t228.size : Int) ≤ (t223.size : Int) then (proofmarklaw27_LiftLines.j1 kj6 a1 t189 t220 t223 t228 ((t223.extract 0 ((t228.size : Int) : Int).toNat).toList != t228.toList) t190 t193 t196 t199 t202) else (none)) else (none)))) else (none)) else (none)) = some r := by rw [if_neg (show ¬ (false = true) by decide)] at H; exact H
        clear H
        have H := H1
        clear H1
        by_cases c36 : 0 ≤ a1
        · rw [if_pos c36] at H
          have c36b0 := eq_true c36
          have c36b1 : decide (0 ≤ a1) = true := decide_eq_true c36
          clear c36
          by_cases c37 : a1 ≤ (t220.length : Int)
          · rw [if_pos c37] at H
            have c37b0 := eq_true c37
            have c37b1 : decide (a1 ≤ (t220.length : Int)) = true := decide_eq_true c37
            clear c37
            obtain ⟨y224, hy224⟩ : ∃ y_ : List (List Int), y_ = (t220.take (a1 : Int).toNat) := ⟨_, rfl⟩
            replace H : ((lift_Trace.f t190 t193 t196 t199 t202 y224).bind fun t228 => (if (t228.size : Int) > (t223.size : Int) then (proofmarklaw27_LiftLines.j1 kj6 a1 t189 t220 t223 t228 true t190 t193 t196 t199 t202) else (if 0 ≤ (t228.size : Int) then (if (t228.size : Int) ≤ (t223.size : Int) then (proofmarklaw27_LiftLines.j1 kj6 a1 t189 t220 t223 t228 ((t223.extract 0 ((t228.size : Int) : Int).toNat).toList != t228.toList) t190 t193 t196 t199 t202) else (none)) else (none)))) = some r := by first | (rw [hy224]; with_reducible exact H) | (have H2_ := (Option.bind_some _ _).symm.trans H; rw [hy224]; with_reducible exact H2_) | (have H2_ := (Option.bind_some _ _).symm.trans H; with_reducible exact H2_) | with_reducible exact H | (rw [hy224]; exact H) | exact H
            have Ny224 := Aside0.mk hy224
            clear hy224
            replace H := Option.bind_eq_some_iff.mp H
            obtain ⟨t228, A380, H⟩ := H
            replace H : (if (t228.size : Int) > (t223.size : Int) then (proofmarklaw27_LiftLines.j1 kj6 a1 t189 t220 t223 t228 true t190 t193 t196 t199 t202) else (if 0 ≤ (t228.size : Int) then (if (t228.size : Int) ≤ (t223.size : Int) then (proofmarklaw27_LiftLines.j1 kj6 a1 t189 t220 t223 t228 ((t223.extract 0 ((t228.size : Int) : Int).toNat).toList != t228.toList) t190 t193 t196 t199 t202) else (none)) else (none))) = some r := H
            have A38 := Aside0.mk A380
            clear A380
            have HC39 := Aside0.mk H
            clear H
            try go_wp2
            have n0_ := Aside0.mk (Kd.S_drew HO_8.out)
            have n1_ := Aside0.mk (Kd.R_drew HO_219000.out)
            have n2_ := Aside0.mk (Kd.R_drew HO_219001.out)
            have n3_ := Aside0.mk (Kd.R_drew HO_219002.out)
            have n4_ := Aside0.mk (Kd.R_drew HO_219003.out)
            have n5_ := Aside0.mk (Kd.R_drew HO_219004.out)
            have n6_ := Aside0.mk (Kd.R_drew HO_220001.out)
            have n7_ := Aside0.mk (Kd.R_drew HO_220002.out)
            have n8_ := Aside0.mk (Kd.R_drew HO_220003.out)
            have n9_ := Aside0.mk (Kd.R_drew HO_220004.out)
            have n10_ := Aside0.mk (blk_drew BK188.out)
            have n11_ := Aside0.mk (blk_drew BK218.out)
            have n12_ := Aside0.mk (blk_drew BK219.out)
            have n13_ := Aside0.mk (below_drew1 HB.out)
            clear HO_8
            clear HO_219000
            clear HO_219001
            clear HO_219002
            clear HO_219003
            clear HO_219004
            clear HO_220001
            clear HO_220002
            clear HO_220003
            clear HO_220004
            clear BK188
            clear BK218
            clear BK219
            clear HB
            have HO_8 := n0_
            have HO_219000 := n1_
            have HO_219001 := n2_
            have HO_219002 := n3_
            have HO_219003 := n4_
            have HO_219004 := n5_
            have HO_220001 := n6_
            have HO_220002 := n7_
            have HO_220003 := n8_
            have HO_220004 := n9_
            have BK188 := n10_
            have BK218 := n11_
            have BK219 := n12_
            have HB := n13_
            clear n0_ n1_ n2_ n3_ n4_ n5_ n6_ n7_ n8_ n9_ n10_ n11_ n12_ n13_
            have q41 : (a1 : Int) ≤ ((t220.length : Int) : Int) := of_decide_eq_true (by first | (with_reducible assumption) | assumption)
            obtain ⟨i041, hi041, _, hsz41, _⟩ := info_parts info55
            have hroom41 : t220.length ≤ co31 := (Kd.S_reads' HO_8.out).2.1
            have hC41 : Kd.C (Kd.slice 3 (Kd.int .i64)) _ Ao31 t220.length t220 := (Kd.S_reads' HO_8.out).2.2
            have hcut41 := cut_to (P := Tryd.prog) 28 55 .i64 Tryd.underlying28 hi041 Ao31 t220.length co31 a1 (of_decide_eq_true (by first | (with_reducible assumption) | assumption)) q41 hroom41
            have hr41 := Kd.C_take (m := (a1 : Int).toNat) hC41 (by omega)
            have hy41 : y224.length = (a1 : Int).toNat := (by rw [Ny224.out, List.length_take]; omega)
            rw [← Ny224.out] at hr41
            rw [← hy41] at hcut41
            have HR227 := Aside0.mk hr41
            have HC227 := Aside0.mk (show y224.length ≤ co31 from by omega)
            clear hr41 hC41 hroom41 hi041 hsz41
            have KY41 := Aside0.mk hy41
            clear hy41
            have KL41 := Aside0.mk (show (a1 : Int).toNat ≤ t220.length from by omega)
            replace q41 := eq_true q41
            refine start_ (n := 6) (S := fun w' => w'.cell? ⟨gb218, 0, none⟩ = some (.slice Ao14 t190.length co14) ∧ w'.cell? ⟨gb218, 1, none⟩ = some (.slice Ao18 t193.length co18) ∧ w'.cell? ⟨gb218, 2, none⟩ = some (.slice Ao19 t196.length co19) ∧ w'.cell? ⟨gb218, 3, none⟩ = some (.slice Ao20 t199.length co20) ∧ w'.cell? ⟨gb218, 4, none⟩ = some (.slice Ao21 t202.length co21)) (ds := []) #[false, false, false, false, false, false] (by kernel_rfl) rfl rfl ⟨(blk_cell BK218.out 0).trans rfl, (blk_cell BK218.out 1).trans rfl, (blk_cell BK218.out 2).trans rfl, (blk_cell BK218.out 3).trans rfl, (blk_cell BK218.out 4).trans rfl⟩ (fun hHeld => ?_)
            generalize wc.drew = w40 at HO_8 HO_219000 HO_219001 HO_219002 HO_219003 HO_219004 HO_220001 HO_220002 HO_220003 HO_220004 BK188 BK218 BK219 HB HR227 hHeld ⊢
            refine pure_ (i := 1) (N := some 41) (v := ?_) (a' := ?_) #[false, true, false, false, false, false] rfl rfl (by kernel_rfl) (fun _ _ _ h => h) (Or.inl ⟨by rfl, ?_⟩) ?_ ?_
            rotate_left
            · intro w'
              go_simp
              with_reducible rfl
            rotate_left
            · simp only [Act.put, List.setIfInBounds_toArray, List.set_cons_zero, List.set_cons_succ, i64_w, i32_w]
              rfl
            refine pure_ (i := 2) (N := some 42) (v := ?_) (a' := ?_) #[false, true, true, false, false, false] rfl rfl (by kernel_rfl) (fun _ _ _ h => h) (Or.inl ⟨by rfl, ?_⟩) ?_ ?_
            rotate_left
            · intro w'
              go_simp
              with_reducible rfl
            rotate_left
            · simp only [Act.put, List.setIfInBounds_toArray, List.set_cons_zero, List.set_cons_succ, i64_w, i32_w]
              rfl
            refine pure_ (i := 3) (N := some 43) (v := ?_) (a' := ?_) #[false, true, true, true, false, false] rfl rfl (by kernel_rfl) (fun _ _ _ h => h) (Or.inl ⟨by rfl, ?_⟩) ?_ ?_
            rotate_left
            · intro w'
              go_simp
              with_reducible rfl
            rotate_left
            · simp only [Act.put, List.setIfInBounds_toArray, List.set_cons_zero, List.set_cons_succ, i64_w, i32_w]
              rfl
            refine take_ (i := 0) (N := some 40) (v := ?_) (a' := ?_) #[true, true, true, true, false, false] rfl rfl (by kernel_rfl) (fun _ _ _ h => h) (Or.inl ⟨by rfl, ?_⟩) hHeld ?_ ?_
            rotate_left
            · rintro w' ⟨s0, s1, s2, s3, s4⟩
              go_simp
              with_reducible rfl
            rotate_left
            · simp only [Act.put, List.setIfInBounds_toArray, List.set_cons_zero, List.set_cons_succ, i64_w, i32_w]
              rfl
            refine one_ (i := 4) (N := some 44) #[true, true, true, true, true, false] rfl rfl (by kernel_rfl) (by decide) (fun K hK => ?_)
            refine goes_ Tryd.func29 (by kernel_rfl) rfl #[.agg #[.slice Ao14 t190.length co14, .slice Ao18 t193.length co18, .slice Ao19 t196.length co19, .slice Ao20 t199.length co20, .slice Ao21 t202.length co21], .slice Ao31 y224.length co31] (by rfl) rfl rfl (by (try simp only [List.map_toArray, List.map_cons, List.map_nil]); first | done | rfl | (simp only [List.length_drop, List.length_take]; rfl)) ?_
            with_reducible refine (lift_Trace.calls _ _ t190 _ _ t193 _ _ t196 _ _ t199 _ _ t202 _ _ y224 t228 _ (by first | exact HG.out | (refine tab_below HG.out ?_; repeat (first | (with_reducible first | exact HB.out | apply below_alloc | apply pw_below_drewN | apply below_drew1 | refine below_set ?_ GE188.out | refine below_set ?_ GE218.out | refine below_set ?_ GE219.out) | exact HB.out)) | (refine tab_drawn HG.out ?_; repeat (first | exact Drawn0.refl _ | apply drawn_drewN | apply drawn_drew))) ?side1 ?side2 ?side3 ?side4 ?side5 ?side6 ?side7 ?side8 ?side9 ?side10 ?side11 ?side12 A38.out).mono ?_
            (case side1 => repeat (first | exact (Kd.R_reads' HO_219000.out).2.2 | (with_reducible refine Kd.C_alloc ?_ _) | (with_reducible refine Kd.C_drewN ?_ _) | (with_reducible refine Kd.C_drew ?_)))
            (case side2 => exact (Kd.R_reads' HO_219000.out).2.1)
            (case side3 => repeat (first | exact (Kd.R_reads' HO_219001.out).2.2 | (with_reducible refine Kd.C_alloc ?_ _) | (with_reducible refine Kd.C_drewN ?_ _) | (with_reducible refine Kd.C_drew ?_)))
            (case side4 => exact (Kd.R_reads' HO_219001.out).2.1)
            (case side5 => repeat (first | exact (Kd.R_reads' HO_219002.out).2.2 | (with_reducible refine Kd.C_alloc ?_ _) | (with_reducible refine Kd.C_drewN ?_ _) | (with_reducible refine Kd.C_drew ?_)))
            (case side6 => exact (Kd.R_reads' HO_219002.out).2.1)
            (case side7 => repeat (first | exact (Kd.R_reads' HO_219003.out).2.2 | (with_reducible refine Kd.C_alloc ?_ _) | (with_reducible refine Kd.C_drewN ?_ _) | (with_reducible refine Kd.C_drew ?_)))
            (case side8 => exact (Kd.R_reads' HO_219003.out).2.1)
            (case side9 => repeat (first | exact (Kd.R_reads' HO_219004.out).2.2 | (with_reducible refine Kd.C_alloc ?_ _) | (with_reducible refine Kd.C_drewN ?_ _) | (with_reducible refine Kd.C_drew ?_)))
            (case side10 => exact (Kd.R_reads' HO_219004.out).2.1)
            (case side11 => repeat (first | exact (by repeat (first | (with_reducible exact HR227.out) | (with_reducible refine Kd.C_alloc ?_ _) | (with_reducible refine Kd.C_drewN ?_ _) | (with_reducible refine Kd.C_drew ?_) | exact HR227.out)) | (with_reducible refine Kd.C_alloc ?_ _) | (with_reducible refine Kd.C_drewN ?_ _) | (with_reducible refine Kd.C_drew ?_)))
            (case side12 => exact HC227.out)
            rintro e w42 ⟨rfl, hb⟩
            refine ⟨_, rfl, ?_⟩
            have n0_ := Aside0.mk (Kd.S_below (by (with_reducible repeat (first | apply Kd.S_alloc | apply Kd.S_drewN | apply Kd.S_drew)); exact HO_8.out) hb)
            have n1_ := Aside0.mk (Kd.R_below (by (with_reducible repeat (first | apply Kd.R_alloc | apply Kd.R_drewN | apply Kd.R_drew)); exact HO_219000.out) hb)
            have n2_ := Aside0.mk (Kd.R_below (by (with_reducible repeat (first | apply Kd.R_alloc | apply Kd.R_drewN | apply Kd.R_drew)); exact HO_219001.out) hb)
            have n3_ := Aside0.mk (Kd.R_below (by (with_reducible repeat (first | apply Kd.R_alloc | apply Kd.R_drewN | apply Kd.R_drew)); exact HO_219002.out) hb)
            have n4_ := Aside0.mk (Kd.R_below (by (with_reducible repeat (first | apply Kd.R_alloc | apply Kd.R_drewN | apply Kd.R_drew)); exact HO_219003.out) hb)
            have n5_ := Aside0.mk (Kd.R_below (by (with_reducible repeat (first | apply Kd.R_alloc | apply Kd.R_drewN | apply Kd.R_drew)); exact HO_219004.out) hb)
            have n6_ := Aside0.mk (Kd.R_below (by (with_reducible repeat (first | apply Kd.R_alloc | apply Kd.R_drewN | apply Kd.R_drew)); exact HO_220001.out) hb)
            have n7_ := Aside0.mk (Kd.R_below (by (with_reducible repeat (first | apply Kd.R_alloc | apply Kd.R_drewN | apply Kd.R_drew)); exact HO_220002.out) hb)
            have n8_ := Aside0.mk (Kd.R_below (by (with_reducible repeat (first | apply Kd.R_alloc | apply Kd.R_drewN | apply Kd.R_drew)); exact HO_220003.out) hb)
            have n9_ := Aside0.mk (Kd.R_below (by (with_reducible repeat (first | apply Kd.R_alloc | apply Kd.R_drewN | apply Kd.R_drew)); exact HO_220004.out) hb)
            have n10_ := Aside0.mk (blk_below (g := gb188) (o := .cells #[.slice A0_0 l0_0.length c0_0, .slice A0_1 l0_1.length c0_1, .slice A0_2 l0_2.length c0_2, .slice A0_3 l0_3.length c0_3, .slice A0_4 l0_4.length c0_4, .int .i64 a0_5, .slice A0_6 l0_6.length c0_6, .slice A0_7 l0_7.length c0_7, .slice A0_8 l0_8.length c0_8, .slice A0_9 l0_9.length c0_9, .slice A0_10 l0_10.length c0_10, .slice A0_11 l0_11.length c0_11, .string a0_12] 61 (0, 0)) (by (with_reducible repeat (first | refine blk_drewN ?_ _ | refine blk_drew ?_ | refine blk_alloc ?_ _)); exact BK188.out) hb)
            have n11_ := Aside0.mk (blk_below (g := gb218) (o := .cells #[.slice Ao14 t190.length co14, .slice Ao18 t193.length co18, .slice Ao19 t196.length co19, .slice Ao20 t199.length co20, .slice Ao21 t202.length co21] 27 (0, 0)) (by (with_reducible repeat (first | refine blk_drewN ?_ _ | refine blk_drew ?_ | refine blk_alloc ?_ _)); exact BK218.out) hb)
            have n12_ := Aside0.mk (blk_below (g := gb219) (o := .cells #[.int .i64 t205, .slice Ao24 t206.length co24, .slice Ao25 t209.length co25, .slice Ao26 t212.length co26, .slice Ao27 t215.length co27] 53 (0, 0)) (by (with_reducible repeat (first | refine blk_drewN ?_ _ | refine blk_drew ?_ | refine blk_alloc ?_ _)); exact BK219.out) hb)
            have n13_ := Aside0.mk (Kd.C_below (by repeat (first | (with_reducible exact HR227.out) | (with_reducible refine Kd.C_alloc ?_ _) | (with_reducible refine Kd.C_drewN ?_ _) | (with_reducible refine Kd.C_drew ?_) | exact HR227.out)) hb)
            have n14_ := Aside0.mk (below_step (by repeat (first | (with_reducible first | exact HB.out | apply below_alloc | apply pw_below_drewN | apply below_drew1 | refine below_set ?_ GE188.out | refine below_set ?_ GE218.out | refine below_set ?_ GE219.out) | exact HB.out)) hb)
            clear HO_8
            clear HO_219000
            clear HO_219001
            clear HO_219002
            clear HO_219003
            clear HO_219004
            clear HO_220001
            clear HO_220002
            clear HO_220003
            clear HO_220004
            clear BK188
            clear BK218
            clear BK219
            clear HR227
            clear HB
            have HO_8 := n0_
            have HO_219000 := n1_
            have HO_219001 := n2_
            have HO_219002 := n3_
            have HO_219003 := n4_
            have HO_219004 := n5_
            have HO_220001 := n6_
            have HO_220002 := n7_
            have HO_220003 := n8_
            have HO_220004 := n9_
            have BK188 := n10_
            have BK218 := n11_
            have BK219 := n12_
            have HR227 := n13_
            have HB := n14_
            clear n0_ n1_ n2_ n3_ n4_ n5_ n6_ n7_ n8_ n9_ n10_ n11_ n12_ n13_ n14_
            (try clear hb)
            (try clear hb2)
            (try clear hk)
            (try clear hi)
            refine hK.out _ _ ⟨(blk_cell BK218.out 0).trans rfl, (blk_cell BK218.out 1).trans rfl, (blk_cell BK218.out 2).trans rfl, (blk_cell BK218.out 3).trans rfl, (blk_cell BK218.out 4).trans rfl⟩ (fun hHeld => ?_)
            clear hK K
            refine norm_ (a' := ?_) ?_ ?_
            rotate_left
            · show Act.put _ (some 44) _ = _
              simp only [Act.put, List.setIfInBounds_toArray, List.set_cons_zero, List.set_cons_succ, i64_w, i32_w]
              rfl
            refine pure_ (i := 5) (N := some 10) (v := ?_) (a' := ?_) #[true, true, true, true, true, true] rfl rfl (by kernel_rfl) (fun _ _ _ h => h) (Or.inl ⟨by rfl, ?_⟩) ?_ ?_
            rotate_left
            · intro w'
              go_simp
              with_reducible rfl
            rotate_left
            · simp only [Act.put, List.setIfInBounds_toArray, List.set_cons_zero, List.set_cons_succ, i64_w, i32_w]
              rfl
            refine done_ (by kernel_rfl) ?_
            go_upto_region 8 with (fail)
            go_cut [57] (fun v57 wc => ∃ (kq : Nat) (x57_38 : Bool), v57 = .bool x57_38 ∧ Aside0 (proofmarklaw27_LiftLines.j1 kq a1 t189 t220 t223 t228 x57_38 t190 t193 t196 t199 t202 = some r) ∧ Aside0 (kq ≤ kj6) ∧ Aside0 (Kd.S (Kd.slice 3 (Kd.int .i64)) 55 wc w.heap.size (fun _ => True) (.slice Ao31 t220.length co31) t220) ∧ Aside0 (Kd.R k96 96 wc w.heap.size (fun _ => True) (.slice Ao14 t190.length co14) t190) ∧ Aside0 (Kd.R k111 111 wc w.heap.size (fun k_ => some k_ ≠ ((.slice Ao21 t202.length co21) : Value).ownBlock) (.slice Ao18 t193.length co18) t193) ∧ Aside0 (Kd.R k94 94 wc w.heap.size (fun _ => True) (.slice Ao19 t196.length co19) t196) ∧ Aside0 (Kd.R k73 73 wc w.heap.size (fun _ => True) (.slice Ao20 t199.length co20) t199) ∧ Aside0 (Kd.R k111 111 wc w.heap.size (fun k_ => some k_ ≠ ((.slice Ao18 t193.length co18) : Value).ownBlock) (.slice Ao21 t202.length co21) t202) ∧ Aside0 (Kd.R k201 201 wc w.heap.size (fun _ => True) (.slice Ao24 t206.length co24) t206) ∧ Aside0 (Kd.R k202 202 wc w.heap.size (fun _ => True) (.slice Ao25 t209.length co25) t209) ∧ Aside0 (Kd.R k98 98 wc w.heap.size (fun _ => True) (.slice Ao26 t212.length co26) t212) ∧ Aside0 (Kd.R k204 204 wc w.heap.size (fun _ => True) (.slice Ao27 t215.length co27) t215) ∧ Aside0 (wc.heap[gb188]? = some (.cells #[(.slice A0_0 l0_0.length c0_0), (.slice A0_1 l0_1.length c0_1), (.slice A0_2 l0_2.length c0_2), (.slice A0_3 l0_3.length c0_3), (.slice A0_4 l0_4.length c0_4), .int .i64 a0_5, (.slice A0_6 l0_6.length c0_6), (.slice A0_7 l0_7.length c0_7), (.slice A0_8 l0_8.length c0_8), (.slice A0_9 l0_9.length c0_9), (.slice A0_10 l0_10.length c0_10), (.slice A0_11 l0_11.length c0_11), .string a0_12] 61 (0, 0))) ∧ Aside0 (wc.heap[gb218]? = some (.cells #[(.slice Ao14 t190.length co14), (.slice Ao18 t193.length co18), (.slice Ao19 t196.length co19), (.slice Ao20 t199.length co20), (.slice Ao21 t202.length co21)] 27 (0, 0))) ∧ Aside0 (wc.heap[gb219]? = some (.cells #[.int .i64 t205, (.slice Ao24 t206.length co24), (.slice Ao25 t209.length co25), (.slice Ao26 t212.length co26), (.slice Ao27 t215.length co27)] 53 (0, 0))) ∧ Aside0 (Kd.C (Kd.slice 3 (Kd.int .i64)) wc Ao31 y224.length y224) ∧ Aside0 (Below w.heap.size w wc))
            case first =>
              have H := HC39.out
              clear HC39
              by_cases c43 : (t228.size : Int) > (t223.size : Int)
              · rw [if_pos c43] at H
                have c43b0 : decide ((t223.size : Int) < (t228.size : Int)) = true := decide_eq_true c43
                have c43b1 : decide (t223.size < t228.size) = true := decide_eq_true (Int.ofNat_lt.mp c43)
                clear c43
                (first | rw [c43b0] | (simp only [i64_w, i32_w]; rw [c43b0]) | skip)
                have H' := Aside0.mk H
                clear H
                go_wp2
                go_meet
                case rel => exact ⟨_, (true), (by first | rfl | (simp; done) | (simp [*]; done)), H', ⟨by have := HJ6.out; first | omega | exact Nat.le_refl _⟩, ⟨by (with_reducible repeat (first | apply Kd.S_alloc | apply Kd.S_drewN | apply Kd.S_drew)); exact HO_8.out⟩, ⟨by (with_reducible repeat (first | apply Kd.R_alloc | apply Kd.R_drewN | apply Kd.R_drew)); exact HO_219000.out⟩, ⟨by (with_reducible repeat (first | apply Kd.R_alloc | apply Kd.R_drewN | apply Kd.R_drew)); exact HO_219001.out⟩, ⟨by (with_reducible repeat (first | apply Kd.R_alloc | apply Kd.R_drewN | apply Kd.R_drew)); exact HO_219002.out⟩, ⟨by (with_reducible repeat (first | apply Kd.R_alloc | apply Kd.R_drewN | apply Kd.R_drew)); exact HO_219003.out⟩, ⟨by (with_reducible repeat (first | apply Kd.R_alloc | apply Kd.R_drewN | apply Kd.R_drew)); exact HO_219004.out⟩, ⟨by (with_reducible repeat (first | apply Kd.R_alloc | apply Kd.R_drewN | apply Kd.R_drew)); exact HO_220001.out⟩, ⟨by (with_reducible repeat (first | apply Kd.R_alloc | apply Kd.R_drewN | apply Kd.R_drew)); exact HO_220002.out⟩, ⟨by (with_reducible repeat (first | apply Kd.R_alloc | apply Kd.R_drewN | apply Kd.R_drew)); exact HO_220003.out⟩, ⟨by (with_reducible repeat (first | apply Kd.R_alloc | apply Kd.R_drewN | apply Kd.R_drew)); exact HO_220004.out⟩, ⟨by (with_reducible repeat (first | refine blk_drewN ?_ _ | refine blk_drew ?_ | refine blk_alloc ?_ _)); exact BK188.out⟩, ⟨by (with_reducible repeat (first | refine blk_drewN ?_ _ | refine blk_drew ?_ | refine blk_alloc ?_ _)); exact BK218.out⟩, ⟨by (with_reducible repeat (first | refine blk_drewN ?_ _ | refine blk_drew ?_ | refine blk_alloc ?_ _)); exact BK219.out⟩, ⟨by repeat (first | (with_reducible exact HR227.out) | (with_reducible refine Kd.C_alloc ?_ _) | (with_reducible refine Kd.C_drewN ?_ _) | (with_reducible refine Kd.C_drew ?_) | exact HR227.out)⟩, ⟨by repeat (first | (with_reducible first | exact HB.out | apply below_alloc | apply pw_below_drewN | apply below_drew1 | refine below_set ?_ GE188.out | refine below_set ?_ GE218.out | refine below_set ?_ GE219.out) | exact HB.out)⟩⟩
              · rw [if_neg c43] at H
                have c43b0 : decide ((t223.size : Int) < (t228.size : Int)) = false := decide_eq_false c43
                have c43b1 : decide (t223.size < t228.size) = false := decide_eq_false (fun h => c43 (Int.ofNat_lt.mpr h))
                clear c43
                (first | rw [c43b0] | (simp only [i64_w, i32_w]; rw [c43b0]) | skip)
                by_cases c44 : 0 ≤ (t228.size : Int)
                · rw [if_pos c44] at H
                  have c44b0 := eq_true c44
                  have c44b1 : decide (0 ≤ (t228.size : Int)) = true := decide_eq_true c44
                  clear c44
                  by_cases c45 : (t228.size : Int) ≤ (t223.size : Int)
                  · rw [if_pos c45] at H
                    have c45b0 := eq_true c45
                    have c45b1 : decide ((t228.size : Int) ≤ (t223.size : Int)) = true := decide_eq_true c45
                    clear c45
                    have H' := Aside0.mk H
                    clear H
                    go_wp2
                    go_meet
                    case rel => exact ⟨_, (((t223.extract 0 ((t228.size : Int) : Int).toNat).toList != t228.toList)), (by first | rfl | (simp; done) | (simp [*]; done)), H', ⟨by have := HJ6.out; first | omega | exact Nat.le_refl _⟩, ⟨by (with_reducible repeat (first | apply Kd.S_alloc | apply Kd.S_drewN | apply Kd.S_drew)); exact HO_8.out⟩, ⟨by (with_reducible repeat (first | apply Kd.R_alloc | apply Kd.R_drewN | apply Kd.R_drew)); exact HO_219000.out⟩, ⟨by (with_reducible repeat (first | apply Kd.R_alloc | apply Kd.R_drewN | apply Kd.R_drew)); exact HO_219001.out⟩, ⟨by (with_reducible repeat (first | apply Kd.R_alloc | apply Kd.R_drewN | apply Kd.R_drew)); exact HO_219002.out⟩, ⟨by (with_reducible repeat (first | apply Kd.R_alloc | apply Kd.R_drewN | apply Kd.R_drew)); exact HO_219003.out⟩, ⟨by (with_reducible repeat (first | apply Kd.R_alloc | apply Kd.R_drewN | apply Kd.R_drew)); exact HO_219004.out⟩, ⟨by (with_reducible repeat (first | apply Kd.R_alloc | apply Kd.R_drewN | apply Kd.R_drew)); exact HO_220001.out⟩, ⟨by (with_reducible repeat (first | apply Kd.R_alloc | apply Kd.R_drewN | apply Kd.R_drew)); exact HO_220002.out⟩, ⟨by (with_reducible repeat (first | apply Kd.R_alloc | apply Kd.R_drewN | apply Kd.R_drew)); exact HO_220003.out⟩, ⟨by (with_reducible repeat (first | apply Kd.R_alloc | apply Kd.R_drewN | apply Kd.R_drew)); exact HO_220004.out⟩, ⟨by (with_reducible repeat (first | refine blk_drewN ?_ _ | refine blk_drew ?_ | refine blk_alloc ?_ _)); exact BK188.out⟩, ⟨by (with_reducible repeat (first | refine blk_drewN ?_ _ | refine blk_drew ?_ | refine blk_alloc ?_ _)); exact BK218.out⟩, ⟨by (with_reducible repeat (first | refine blk_drewN ?_ _ | refine blk_drew ?_ | refine blk_alloc ?_ _)); exact BK219.out⟩, ⟨by repeat (first | (with_reducible exact HR227.out) | (with_reducible refine Kd.C_alloc ?_ _) | (with_reducible refine Kd.C_drewN ?_ _) | (with_reducible refine Kd.C_drew ?_) | exact HR227.out)⟩, ⟨by repeat (first | (with_reducible first | exact HB.out | apply below_alloc | apply pw_below_drewN | apply below_drew1 | refine below_set ?_ GE188.out | refine below_set ?_ GE218.out | refine below_set ?_ GE219.out) | exact HB.out)⟩⟩
                  · rw [if_neg c45] at H
                    exact absurd H (by simp)
                · rw [if_neg c44] at H
                  exact absurd H (by simp)
            case rest =>
              clear HC39
              try clear c1
              try clear c2
              try clear p2
              try clear c3
              try clear c4
              try clear q4
              try clear c11
              try clear c15
              try clear c16
              try clear c22
              try clear c26
              try clear c27
              try clear c28
              try clear c29
              try clear c33
              try clear c33b0
              try clear c33b1
              try clear c34
              try clear c34b0
              try clear c35
              try clear c36
              try clear c36b0
              try clear c36b1
              try clear c37
              try clear c37b0
              try clear c37b1
              try clear q41
              try clear c43
              try clear c43b0
              try clear c43b1
              try clear c44
              try clear c44b0
              try clear c44b1
              try clear c45
              try clear c45b0
              try clear c45b1
              try clear hcz10_0
              try clear hcz10_1
              try clear hcz10_10
              try clear hcz10_11
              try clear hcz10_12
              try clear hcz10_2
              try clear hcz10_3
              try clear hcz10_4
              try clear hcz10_5
              try clear hcz10_6
              try clear hcz10_7
              try clear hcz10_8
              try clear hcz10_9
              try clear hcz17_0
              try clear hcz17_1
              try clear hcz17_2
              try clear hcz17_3
              try clear hcz17_4
              try clear hcz23_0
              try clear hcz23_1
              try clear hcz23_2
              try clear hcz23_3
              try clear hcz23_4
              try clear hcz28_0
              try clear hcz28_1
              try clear hcz28_10
              try clear hcz28_11
              try clear hcz28_12
              try clear hcz28_2
              try clear hcz28_3
              try clear hcz28_4
              try clear hcz28_5
              try clear hcz28_6
              try clear hcz28_7
              try clear hcz28_8
              try clear hcz28_9
              try clear hcz30_0
              try clear hcz30_1
              try clear hcz30_2
              try clear hcz30_3
              try clear hcz30_4
              try clear hfz10_0
              try clear hfz10_1
              try clear hfz10_10
              try clear hfz10_11
              try clear hfz10_12
              try clear hfz10_2
              try clear hfz10_3
              try clear hfz10_4
              try clear hfz10_5
              try clear hfz10_6
              try clear hfz10_7
              try clear hfz10_8
              try clear hfz10_9
              try clear hfz17_0
              try clear hfz17_1
              try clear hfz17_2
              try clear hfz17_3
              try clear hfz17_4
              try clear hfz23_0
              try clear hfz23_1
              try clear hfz23_2
              try clear hfz23_3
              try clear hfz23_4
              try clear hfz28_0
              try clear hfz28_1
              try clear hfz28_10
              try clear hfz28_11
              try clear hfz28_12
              try clear hfz28_2
              try clear hfz28_3
              try clear hfz28_4
              try clear hfz28_5
              try clear hfz28_6
              try clear hfz28_7
              try clear hfz28_8
              try clear hfz28_9
              try clear hfz30_0
              try clear hfz30_1
              try clear hfz30_2
              try clear hfz30_3
              try clear hfz30_4
              try clear p2
              try clear q41
              obtain ⟨kq, x57_38, rfl, HA, HJ38, HO_8, HO_219000, HO_219001, HO_219002, HO_219003, HO_219004, HO_220001, HO_220002, HO_220003, HO_220004, BK188, BK218, BK219, HR227, HB⟩ := hcut
              cases kq with
              | zero => exact absurd HA.out (by simp [proofmarklaw27_LiftLines.j1])
              | succ kj38 =>
                have H := HA.out
                clear HA
                simp only [proofmarklaw27_LiftLines.j1] at H
                by_cases c46 : x57_38 = true
                · subst c46
                  have H1 : (some false) = some r := by rw [if_pos rfl] at H; exact H
                  exact absurd (Option.some.inj H1) (by rw [HRT.out]; decide)
                · replace c46 := Bool.eq_false_iff.mpr c46
                  subst c46
                  have H1 : (if 0 ≤ (t228.size : Int) then (if (t228.size : Int) ≤ (t223.size : Int) then ((lift_Back.f t190 t193 t196 t199 t202 (t223.extract 0 ((t228.size : Int) : Int).toNat)).bind fun bt229 => (proofmarklaw27_LiftLines.l0 kj38 a1 t189 t220 t223 bt229.1 bt229.2 0 0)) else (none)) else (none)) = some r := by rw [if_neg (show ¬ (false = true) by decide)] at H; exact H
                  clear H
                  have H := H1
                  clear H1
                  by_cases c47 : 0 ≤ (t228.size : Int)
                  · rw [if_pos c47] at H
                    have c47b0 := eq_true c47
                    have c47b1 : decide (0 ≤ (t228.size : Int)) = true := decide_eq_true c47
                    clear c47
                    by_cases c48 : (t228.size : Int) ≤ (t223.size : Int)
                    · rw [if_pos c48] at H
                      have c48b0 := eq_true c48
                      have c48b1 : decide ((t228.size : Int) ≤ (t223.size : Int)) = true := decide_eq_true c48
                      clear c48
                      replace H := Option.bind_eq_some_iff.mp H
                      obtain ⟨⟨t229, t232⟩, A490, H⟩ := H
                      replace H : (proofmarklaw27_LiftLines.l0 kj38 a1 t189 t220 t223 t229 t232 0 0) = some r := H
                      have A49 := Aside0.mk A490
                      clear A490
                      have H' := Aside0.mk H
                      clear H
                      try go_wp2
                      have n0_ := Aside0.mk (Kd.S_drew HO_8.out)
                      have n1_ := Aside0.mk (Kd.R_drew HO_219000.out)
                      have n2_ := Aside0.mk (Kd.R_drew HO_219001.out)
                      have n3_ := Aside0.mk (Kd.R_drew HO_219002.out)
                      have n4_ := Aside0.mk (Kd.R_drew HO_219003.out)
                      have n5_ := Aside0.mk (Kd.R_drew HO_219004.out)
                      have n6_ := Aside0.mk (Kd.R_drew HO_220001.out)
                      have n7_ := Aside0.mk (Kd.R_drew HO_220002.out)
                      have n8_ := Aside0.mk (Kd.R_drew HO_220003.out)
                      have n9_ := Aside0.mk (Kd.R_drew HO_220004.out)
                      have n10_ := Aside0.mk (blk_drew BK188.out)
                      have n11_ := Aside0.mk (blk_drew BK218.out)
                      have n12_ := Aside0.mk (blk_drew BK219.out)
                      have n13_ := Aside0.mk (Kd.C_drew HR227.out)
                      have n14_ := Aside0.mk (below_drew1 HB.out)
                      clear HO_8
                      clear HO_219000
                      clear HO_219001
                      clear HO_219002
                      clear HO_219003
                      clear HO_219004
                      clear HO_220001
                      clear HO_220002
                      clear HO_220003
                      clear HO_220004
                      clear BK188
                      clear BK218
                      clear BK219
                      clear HR227
                      clear HB
                      have HO_8 := n0_
                      have HO_219000 := n1_
                      have HO_219001 := n2_
                      have HO_219002 := n3_
                      have HO_219003 := n4_
                      have HO_219004 := n5_
                      have HO_220001 := n6_
                      have HO_220002 := n7_
                      have HO_220003 := n8_
                      have HO_220004 := n9_
                      have BK188 := n10_
                      have BK218 := n11_
                      have BK219 := n12_
                      have HR227 := n13_
                      have HB := n14_
                      clear n0_ n1_ n2_ n3_ n4_ n5_ n6_ n7_ n8_ n9_ n10_ n11_ n12_ n13_ n14_
                      refine start_ (n := 11) (S := fun w' => w'.cell? ⟨gb218, 0, none⟩ = some (.slice Ao14 t190.length co14) ∧ w'.cell? ⟨gb218, 1, none⟩ = some (.slice Ao18 t193.length co18) ∧ w'.cell? ⟨gb218, 2, none⟩ = some (.slice Ao19 t196.length co19) ∧ w'.cell? ⟨gb218, 3, none⟩ = some (.slice Ao20 t199.length co20) ∧ w'.cell? ⟨gb218, 4, none⟩ = some (.slice Ao21 t202.length co21)) (ds := []) #[false, false, false, false, false, false, false, false, false, false, false] (by kernel_rfl) rfl rfl ⟨(blk_cell BK218.out 0).trans rfl, (blk_cell BK218.out 1).trans rfl, (blk_cell BK218.out 2).trans rfl, (blk_cell BK218.out 3).trans rfl, (blk_cell BK218.out 4).trans rfl⟩ (fun hHeld => ?_); refine with_tabW proofmarklaw27_LiftLines.tab10 proofmarklaw27_LiftLines.bits10 (fun HT_ HW_ => ?_)
                      generalize wc.drew = w50 at HO_8 HO_219000 HO_219001 HO_219002 HO_219003 HO_219004 HO_220001 HO_220002 HO_220003 HO_220004 BK188 BK218 BK219 HR227 HB hHeld ⊢
                      refine pure_ (i := 1) (N := some 60) (v := ?_) (a' := ?_) #[false, true, false, false, false, false, false, false, false, false, false] rfl rfl (any_of HT_.out (by kernel_rfl)) (fun _ _ _ h => h) (Or.inl ⟨by rfl, ?_⟩) ?_ ?_
                      rotate_left
                      · intro w'
                        go_simp
                        with_reducible rfl
                      rotate_left
                      · simp only [Act.put, List.setIfInBounds_toArray, List.set_cons_zero, List.set_cons_succ, i64_w, i32_w]
                        rfl
                      refine pure_ (i := 2) (N := some 61) (v := ?_) (a' := ?_) #[false, true, true, false, false, false, false, false, false, false, false] rfl rfl (any_of HT_.out (by kernel_rfl)) (fun _ _ _ h => h) (Or.inl ⟨by rfl, ?_⟩) ?_ ?_
                      rotate_left
                      · intro w'
                        go_simp
                        with_reducible rfl
                      rotate_left
                      · simp only [Act.put, List.setIfInBounds_toArray, List.set_cons_zero, List.set_cons_succ, i64_w, i32_w]
                        rfl
                      refine pure_ (i := 3) (N := some 62) (v := ?_) (a' := ?_) #[false, true, true, true, false, false, false, false, false, false, false] rfl rfl (any_of HT_.out (by kernel_rfl)) (fun _ _ _ h => h) (Or.inl ⟨by rfl, ?_⟩) ?_ ?_
                      rotate_left
                      · intro w'
                        go_simp
                        with_reducible rfl
                      rotate_left
                      · simp only [Act.put, List.setIfInBounds_toArray, List.set_cons_zero, List.set_cons_succ, i64_w, i32_w]
                        rfl
                      refine pure_ (i := 4) (N := some 63) (v := ?_) (a' := ?_) #[false, true, true, true, true, false, false, false, false, false, false] rfl rfl (any_of HT_.out (by kernel_rfl)) (fun _ _ _ h => h) (Or.inl ⟨by rfl, ?_⟩) ?_ ?_
                      rotate_left
                      · intro w'
                        go_simp
                        with_reducible rfl
                      rotate_left
                      · simp only [Act.put, List.setIfInBounds_toArray, List.set_cons_zero, List.set_cons_succ, i64_w, i32_w]
                        rfl
                      refine take_ (i := 0) (N := some 59) (v := ?_) (a' := ?_) #[true, true, true, true, true, false, false, false, false, false, false] rfl rfl (take_ofW HT_.out HW_.out (by kernel_rfl)) (fun _ _ _ h => h) (Or.inl ⟨by rfl, ?_⟩) hHeld ?_ ?_
                      rotate_left
                      · rintro w' ⟨s0, s1, s2, s3, s4⟩
                        go_simp
                        with_reducible rfl
                      rotate_left
                      · simp only [Act.put, List.setIfInBounds_toArray, List.set_cons_zero, List.set_cons_succ, i64_w, i32_w]
                        rfl
                      refine one_ (i := 5) (N := some 64) #[true, true, true, true, true, true, false, false, false, false, false] rfl rfl (one_of HT_.out (by kernel_rfl)) (by decide) (fun K hK => ?_)
                      refine goes_ Tryd.func30 (by kernel_rfl) rfl #[.agg #[.slice Ao14 t190.length co14, .slice Ao18 t193.length co18, .slice Ao19 t196.length co19, .slice Ao20 t199.length co20, .slice Ao21 t202.length co21], .string (t223.extract 0 ((t228.size : Int) : Int).toNat)] (by rfl) rfl rfl (by (try simp only [List.map_toArray, List.map_cons, List.map_nil]); first | done | rfl | (simp only [List.length_drop, List.length_take]; rfl)) ?_
                      with_reducible refine (lift_Back.calls _ _ t190 _ _ t193 _ _ t196 _ _ t199 _ _ t202 (t223.extract 0 ((t228.size : Int) : Int).toNat) t229 t232 _ (by first | exact HG.out | (refine tab_below HG.out ?_; repeat (first | (with_reducible first | exact HB.out | apply below_alloc | apply pw_below_drewN | apply below_drew1 | refine below_set ?_ GE188.out | refine below_set ?_ GE218.out | refine below_set ?_ GE219.out) | exact HB.out)) | (refine tab_drawn HG.out ?_; repeat (first | exact Drawn0.refl _ | apply drawn_drewN | apply drawn_drew))) ?side1 ?side2 ?side3 ?side4 ?side5 ?side6 ?side7 ?side8 ?side9 ?side10 A49.out).mono ?_
                      (case side1 => repeat (first | exact (Kd.R_reads' HO_219000.out).2.2 | (with_reducible refine Kd.C_alloc ?_ _) | (with_reducible refine Kd.C_drewN ?_ _) | (with_reducible refine Kd.C_drew ?_)))
                      (case side2 => exact (Kd.R_reads' HO_219000.out).2.1)
                      (case side3 => repeat (first | exact (Kd.R_reads' HO_219001.out).2.2 | (with_reducible refine Kd.C_alloc ?_ _) | (with_reducible refine Kd.C_drewN ?_ _) | (with_reducible refine Kd.C_drew ?_)))
                      (case side4 => exact (Kd.R_reads' HO_219001.out).2.1)
                      (case side5 => repeat (first | exact (Kd.R_reads' HO_219002.out).2.2 | (with_reducible refine Kd.C_alloc ?_ _) | (with_reducible refine Kd.C_drewN ?_ _) | (with_reducible refine Kd.C_drew ?_)))
                      (case side6 => exact (Kd.R_reads' HO_219002.out).2.1)
                      (case side7 => repeat (first | exact (Kd.R_reads' HO_219003.out).2.2 | (with_reducible refine Kd.C_alloc ?_ _) | (with_reducible refine Kd.C_drewN ?_ _) | (with_reducible refine Kd.C_drew ?_)))
                      (case side8 => exact (Kd.R_reads' HO_219003.out).2.1)
                      (case side9 => repeat (first | exact (Kd.R_reads' HO_219004.out).2.2 | (with_reducible refine Kd.C_alloc ?_ _) | (with_reducible refine Kd.C_drewN ?_ _) | (with_reducible refine Kd.C_drew ?_)))
                      (case side10 => exact (Kd.R_reads' HO_219004.out).2.1)
                      rintro e w51 ⟨v230, rfl, ho0, hb⟩
                      refine ⟨_, rfl, ?_⟩
                      have n0_ := Aside0.mk (Kd.S_elder' (by (with_reducible repeat (first | apply Kd.S_alloc | apply Kd.S_drewN | apply Kd.S_drew)); exact HO_8.out) (Kd.S_base ho0) hb)
                      have n1_ := Aside0.mk (Kd.R_below (by (with_reducible repeat (first | apply Kd.R_alloc | apply Kd.R_drewN | apply Kd.R_drew)); exact HO_219000.out) hb)
                      have n2_ := Aside0.mk (Kd.R_below (by (with_reducible repeat (first | apply Kd.R_alloc | apply Kd.R_drewN | apply Kd.R_drew)); exact HO_219001.out) hb)
                      have n3_ := Aside0.mk (Kd.R_below (by (with_reducible repeat (first | apply Kd.R_alloc | apply Kd.R_drewN | apply Kd.R_drew)); exact HO_219002.out) hb)
                      have n4_ := Aside0.mk (Kd.R_below (by (with_reducible repeat (first | apply Kd.R_alloc | apply Kd.R_drewN | apply Kd.R_drew)); exact HO_219003.out) hb)
                      have n5_ := Aside0.mk (Kd.R_below (by (with_reducible repeat (first | apply Kd.R_alloc | apply Kd.R_drewN | apply Kd.R_drew)); exact HO_219004.out) hb)
                      have n6_ := Aside0.mk (Kd.R_below (by (with_reducible repeat (first | apply Kd.R_alloc | apply Kd.R_drewN | apply Kd.R_drew)); exact HO_220001.out) hb)
                      have n7_ := Aside0.mk (Kd.R_below (by (with_reducible repeat (first | apply Kd.R_alloc | apply Kd.R_drewN | apply Kd.R_drew)); exact HO_220002.out) hb)
                      have n8_ := Aside0.mk (Kd.R_below (by (with_reducible repeat (first | apply Kd.R_alloc | apply Kd.R_drewN | apply Kd.R_drew)); exact HO_220003.out) hb)
                      have n9_ := Aside0.mk (Kd.R_below (by (with_reducible repeat (first | apply Kd.R_alloc | apply Kd.R_drewN | apply Kd.R_drew)); exact HO_220004.out) hb)
                      have n10_ := Aside0.mk (Kd.S_lower (Kd.S_new' ho0 (Kd.S_lt (by (with_reducible repeat (first | apply Kd.S_alloc | apply Kd.S_drewN | apply Kd.S_drew)); exact HO_8.out))) (below_size (by repeat (first | (with_reducible first | exact HB.out | apply below_alloc | apply pw_below_drewN | apply below_drew1 | refine below_set ?_ GE188.out | refine below_set ?_ GE218.out | refine below_set ?_ GE219.out) | exact HB.out))))
                      have n11_ := Aside0.mk (blk_below (g := gb188) (o := .cells #[.slice A0_0 l0_0.length c0_0, .slice A0_1 l0_1.length c0_1, .slice A0_2 l0_2.length c0_2, .slice A0_3 l0_3.length c0_3, .slice A0_4 l0_4.length c0_4, .int .i64 a0_5, .slice A0_6 l0_6.length c0_6, .slice A0_7 l0_7.length c0_7, .slice A0_8 l0_8.length c0_8, .slice A0_9 l0_9.length c0_9, .slice A0_10 l0_10.length c0_10, .slice A0_11 l0_11.length c0_11, .string a0_12] 61 (0, 0)) (by (with_reducible repeat (first | refine blk_drewN ?_ _ | refine blk_drew ?_ | refine blk_alloc ?_ _)); exact BK188.out) hb)
                      have n12_ := Aside0.mk (blk_below (g := gb218) (o := .cells #[.slice Ao14 t190.length co14, .slice Ao18 t193.length co18, .slice Ao19 t196.length co19, .slice Ao20 t199.length co20, .slice Ao21 t202.length co21] 27 (0, 0)) (by (with_reducible repeat (first | refine blk_drewN ?_ _ | refine blk_drew ?_ | refine blk_alloc ?_ _)); exact BK218.out) hb)
                      have n13_ := Aside0.mk (blk_below (g := gb219) (o := .cells #[.int .i64 t205, .slice Ao24 t206.length co24, .slice Ao25 t209.length co25, .slice Ao26 t212.length co26, .slice Ao27 t215.length co27] 53 (0, 0)) (by (with_reducible repeat (first | refine blk_drewN ?_ _ | refine blk_drew ?_ | refine blk_alloc ?_ _)); exact BK219.out) hb)
                      have n14_ := Aside0.mk (Kd.C_below (by repeat (first | (with_reducible exact HR227.out) | (with_reducible refine Kd.C_alloc ?_ _) | (with_reducible refine Kd.C_drewN ?_ _) | (with_reducible refine Kd.C_drew ?_) | exact HR227.out)) hb)
                      have n15_ := Aside0.mk (below_step (by repeat (first | (with_reducible first | exact HB.out | apply below_alloc | apply pw_below_drewN | apply below_drew1 | refine below_set ?_ GE188.out | refine below_set ?_ GE218.out | refine below_set ?_ GE219.out) | exact HB.out)) hb)
                      clear HO_8
                      clear HO_219000
                      clear HO_219001
                      clear HO_219002
                      clear HO_219003
                      clear HO_219004
                      clear HO_220001
                      clear HO_220002
                      clear HO_220003
                      clear HO_220004
                      clear BK188
                      clear BK218
                      clear BK219
                      clear HR227
                      clear HB
                      have HO_8 := n0_
                      have HO_219000 := n1_
                      have HO_219001 := n2_
                      have HO_219002 := n3_
                      have HO_219003 := n4_
                      have HO_219004 := n5_
                      have HO_220001 := n6_
                      have HO_220002 := n7_
                      have HO_220003 := n8_
                      have HO_220004 := n9_
                      have HO231 := n10_
                      have BK188 := n11_
                      have BK218 := n12_
                      have BK219 := n13_
                      have HR227 := n14_
                      have HB := n15_
                      clear n0_ n1_ n2_ n3_ n4_ n5_ n6_ n7_ n8_ n9_ n10_ n11_ n12_ n13_ n14_ n15_
                      (try clear hb)
                      (try clear hb2)
                      (try clear hk)
                      (try clear hi)
                      (try clear ho0)
                      refine hK.out _ _ ⟨(blk_cell BK218.out 0).trans rfl, (blk_cell BK218.out 1).trans rfl, (blk_cell BK218.out 2).trans rfl, (blk_cell BK218.out 3).trans rfl, (blk_cell BK218.out 4).trans rfl⟩ (fun hHeld => ?_)
                      clear hK K
                      refine norm_ (a' := ?_) ?_ ?_
                      rotate_left
                      · show Act.put _ (some 64) _ = _
                        simp only [Act.put, List.setIfInBounds_toArray, List.set_cons_zero, List.set_cons_succ, i64_w, i32_w]
                        rfl
                      refine pure_ (i := 6) (N := some 58) (v := ?_) (a' := ?_) #[true, true, true, true, true, true, true, false, false, false, false] rfl rfl (any_of HT_.out (by kernel_rfl)) (fun _ _ _ h => h) (Or.inl ⟨by rfl, ?_⟩) ?_ ?_
                      rotate_left
                      · intro w'
                        go_simp
                        with_reducible rfl
                      rotate_left
                      · simp only [Act.put, List.setIfInBounds_toArray, List.set_cons_zero, List.set_cons_succ, i64_w, i32_w]
                        rfl
                      refine pure_ (i := 7) (N := some 65) (v := ?_) (a' := ?_) #[true, true, true, true, true, true, true, true, false, false, false] rfl rfl (any_of HT_.out (by kernel_rfl)) (fun _ _ _ h => h) (Or.inl ⟨by rfl, ?_⟩) ?_ ?_
                      rotate_left
                      · intro w'
                        go_simp
                        with_reducible rfl
                      rotate_left
                      · simp only [Act.put, List.setIfInBounds_toArray, List.set_cons_zero, List.set_cons_succ, i64_w, i32_w]
                        rfl
                      refine pure_ (i := 8) (N := some 66) (v := ?_) (a' := ?_) #[true, true, true, true, true, true, true, true, true, false, false] rfl rfl (any_of HT_.out (by kernel_rfl)) (fun _ _ _ h => h) (Or.inl ⟨by rfl, ?_⟩) ?_ ?_
                      rotate_left
                      · intro w'
                        go_simp
                        with_reducible rfl
                      rotate_left
                      · simp only [Act.put, List.setIfInBounds_toArray, List.set_cons_zero, List.set_cons_succ, i64_w, i32_w]
                        rfl
                      refine pure_ (i := 9) (N := some 11) (v := ?_) (a' := ?_) #[true, true, true, true, true, true, true, true, true, true, false] rfl rfl (any_of HT_.out (by kernel_rfl)) (fun _ _ _ h => h) (Or.inl ⟨by rfl, ?_⟩) ?_ ?_
                      rotate_left
                      · intro w'
                        go_simp
                        with_reducible rfl
                      rotate_left
                      · simp only [Act.put, List.setIfInBounds_toArray, List.set_cons_zero, List.set_cons_succ, i64_w, i32_w]
                        rfl
                      refine pure_ (i := 10) (N := some 12) (v := ?_) (a' := ?_) #[true, true, true, true, true, true, true, true, true, true, true] rfl rfl (any_of HT_.out (by kernel_rfl)) (fun _ _ _ h => h) (Or.inl ⟨by rfl, ?_⟩) ?_ ?_
                      rotate_left
                      · intro w'
                        go_simp
                        with_reducible rfl
                      rotate_left
                      · simp only [Act.put, List.setIfInBounds_toArray, List.set_cons_zero, List.set_cons_succ, i64_w, i32_w]
                        rfl
                      refine done_ (done_of HT_.out (by kernel_rfl)) ?_
                      try go_wp2
                      try simp only [Act.put, List.setIfInBounds_toArray, List.set_cons_succ, List.set_cons_zero]
                      go_loopg [13, 14] kj38 (fun kq v13 v14 w' => ∃ (x13_3 : Int) (x14_3 : Int), v13 = .int .i64 x13_3 ∧ v14 = .int .i64 x14_3 ∧ Aside0 (proofmarklaw27_LiftLines.l0 kq a1 t189 t220 t223 t229 t232 x13_3 x14_3 = some r) ∧ Aside0 (kq ≤ kj38) ∧ Aside0 (Kd.S (Kd.slice 3 (Kd.int .i64)) 55 w' w.heap.size (fun k_ => some k_ ≠ (v230 : Value).ownBlock) (.slice Ao31 t220.length co31) t220) ∧ Aside0 (Kd.S (Kd.slice 3 (Kd.int .i64)) 55 w' w.heap.size (fun k_ => some k_ ≠ ((.slice Ao31 t220.length co31) : Value).ownBlock) v230 t229) ∧ Aside0 (Kd.R k96 96 w' w.heap.size (fun _ => True) (.slice Ao14 t190.length co14) t190) ∧ Aside0 (Kd.R k111 111 w' w.heap.size (fun k_ => some k_ ≠ ((.slice Ao21 t202.length co21) : Value).ownBlock) (.slice Ao18 t193.length co18) t193) ∧ Aside0 (Kd.R k94 94 w' w.heap.size (fun _ => True) (.slice Ao19 t196.length co19) t196) ∧ Aside0 (Kd.R k73 73 w' w.heap.size (fun _ => True) (.slice Ao20 t199.length co20) t199) ∧ Aside0 (Kd.R k111 111 w' w.heap.size (fun k_ => some k_ ≠ ((.slice Ao18 t193.length co18) : Value).ownBlock) (.slice Ao21 t202.length co21) t202) ∧ Aside0 (Kd.R k201 201 w' w.heap.size (fun _ => True) (.slice Ao24 t206.length co24) t206) ∧ Aside0 (Kd.R k202 202 w' w.heap.size (fun _ => True) (.slice Ao25 t209.length co25) t209) ∧ Aside0 (Kd.R k98 98 w' w.heap.size (fun _ => True) (.slice Ao26 t212.length co26) t212) ∧ Aside0 (Kd.R k204 204 w' w.heap.size (fun _ => True) (.slice Ao27 t215.length co27) t215) ∧ Aside0 (w'.heap[gb188]? = some (.cells #[(.slice A0_0 l0_0.length c0_0), (.slice A0_1 l0_1.length c0_1), (.slice A0_2 l0_2.length c0_2), (.slice A0_3 l0_3.length c0_3), (.slice A0_4 l0_4.length c0_4), .int .i64 a0_5, (.slice A0_6 l0_6.length c0_6), (.slice A0_7 l0_7.length c0_7), (.slice A0_8 l0_8.length c0_8), (.slice A0_9 l0_9.length c0_9), (.slice A0_10 l0_10.length c0_10), (.slice A0_11 l0_11.length c0_11), .string a0_12] 61 (0, 0))) ∧ Aside0 (w'.heap[gb218]? = some (.cells #[(.slice Ao14 t190.length co14), (.slice Ao18 t193.length co18), (.slice Ao19 t196.length co19), (.slice Ao20 t199.length co20), (.slice Ao21 t202.length co21)] 27 (0, 0))) ∧ Aside0 (w'.heap[gb219]? = some (.cells #[.int .i64 t205, (.slice Ao24 t206.length co24), (.slice Ao25 t209.length co25), (.slice Ao26 t212.length co26), (.slice Ao27 t215.length co27)] 53 (0, 0))) ∧ Aside0 (Below w.heap.size w w'))
                      case atStart => exact ⟨(0), (0), (by first | rfl | (simp; done) | (simp [*]; done)), (by first | rfl | (simp; done) | (simp [*]; done)), H', ⟨Nat.le_refl _⟩, ⟨by (with_reducible repeat (first | apply Kd.S_alloc | apply Kd.S_drewN | apply Kd.S_drew)); exact Kd.S_mono HO_8.out (fun _ hk => hk.2)⟩, ⟨by (with_reducible repeat (first | apply Kd.S_alloc | apply Kd.S_drewN | apply Kd.S_drew)); exact Kd.S_mono HO231.out (fun _ hk => hk.2)⟩, ⟨by (with_reducible repeat (first | apply Kd.R_alloc | apply Kd.R_drewN | apply Kd.R_drew)); exact HO_219000.out⟩, ⟨by (with_reducible repeat (first | apply Kd.R_alloc | apply Kd.R_drewN | apply Kd.R_drew)); exact HO_219001.out⟩, ⟨by (with_reducible repeat (first | apply Kd.R_alloc | apply Kd.R_drewN | apply Kd.R_drew)); exact HO_219002.out⟩, ⟨by (with_reducible repeat (first | apply Kd.R_alloc | apply Kd.R_drewN | apply Kd.R_drew)); exact HO_219003.out⟩, ⟨by (with_reducible repeat (first | apply Kd.R_alloc | apply Kd.R_drewN | apply Kd.R_drew)); exact HO_219004.out⟩, ⟨by (with_reducible repeat (first | apply Kd.R_alloc | apply Kd.R_drewN | apply Kd.R_drew)); exact HO_220001.out⟩, ⟨by (with_reducible repeat (first | apply Kd.R_alloc | apply Kd.R_drewN | apply Kd.R_drew)); exact HO_220002.out⟩, ⟨by (with_reducible repeat (first | apply Kd.R_alloc | apply Kd.R_drewN | apply Kd.R_drew)); exact HO_220003.out⟩, ⟨by (with_reducible repeat (first | apply Kd.R_alloc | apply Kd.R_drewN | apply Kd.R_drew)); exact HO_220004.out⟩, ⟨by (with_reducible repeat (first | refine blk_drewN ?_ _ | refine blk_drew ?_ | refine blk_alloc ?_ _)); exact BK188.out⟩, ⟨by (with_reducible repeat (first | refine blk_drewN ?_ _ | refine blk_drew ?_ | refine blk_alloc ?_ _)); exact BK218.out⟩, ⟨by (with_reducible repeat (first | refine blk_drewN ?_ _ | refine blk_drew ?_ | refine blk_alloc ?_ _)); exact BK219.out⟩,⟨by repeat (first | (with_reducible first | exact HB.out | apply below_alloc | apply pw_below_drewN | apply below_drew1 | refine below_set ?_ GE188.out | refine below_set ?_ GE218.out | refine below_set ?_ GE219.out) | exact HB.out)⟩⟩
                      case round =>
                        clear H'
                        try clear c1
                        try clear c2
                        try clear p2
                        try clear c3
                        try clear c4
                        try clear q4
                        try clear c11
                        try clear c15
                        try clear c16
                        try clear c22
                        try clear c26
                        try clear c27
                        try clear c28
                        try clear c29
                        try clear c30
                        try clear c33
                        try clear c33b0
                        try clear c33b1
                        try clear c34
                        try clear c34b0
                        try clear c35
                        try clear c36
                        try clear c36b0
                        try clear c36b1
                        try clear c37
                        try clear c37b0
                        try clear c37b1
                        try clear q41
                        try clear c43
                        try clear c43b0
                        try clear c43b1
                        try clear c44
                        try clear c44b0
                        try clear c44b1
                        try clear c45
                        try clear c45b0
                        try clear c45b1
                        try clear c46
                        try clear c47
                        try clear c47b0
                        try clear c47b1
                        try clear c48
                        try clear c48b0
                        try clear c48b1
                        try clear hcz10_0
                        try clear hcz10_1
                        try clear hcz10_10
                        try clear hcz10_11
                        try clear hcz10_12
                        try clear hcz10_2
                        try clear hcz10_3
                        try clear hcz10_4
                        try clear hcz10_5
                        try clear hcz10_6
                        try clear hcz10_7
                        try clear hcz10_8
                        try clear hcz10_9
                        try clear hcz17_0
                        try clear hcz17_1
                        try clear hcz17_2
                        try clear hcz17_3
                        try clear hcz17_4
                        try clear hcz23_0
                        try clear hcz23_1
                        try clear hcz23_2
                        try clear hcz23_3
                        try clear hcz23_4
                        try clear hcz28_0
                        try clear hcz28_1
                        try clear hcz28_10
                        try clear hcz28_11
                        try clear hcz28_12
                        try clear hcz28_2
                        try clear hcz28_3
                        try clear hcz28_4
                        try clear hcz28_5
                        try clear hcz28_6
                        try clear hcz28_7
                        try clear hcz28_8
                        try clear hcz28_9
                        try clear hcz30_0
                        try clear hcz30_1
                        try clear hcz30_2
                        try clear hcz30_3
                        try clear hcz30_4
                        try clear hfz10_0
                        try clear hfz10_1
                        try clear hfz10_10
                        try clear hfz10_11
                        try clear hfz10_12
                        try clear hfz10_2
                        try clear hfz10_3
                        try clear hfz10_4
                        try clear hfz10_5
                        try clear hfz10_6
                        try clear hfz10_7
                        try clear hfz10_8
                        try clear hfz10_9
                        try clear hfz17_0
                        try clear hfz17_1
                        try clear hfz17_2
                        try clear hfz17_3
                        try clear hfz17_4
                        try clear hfz23_0
                        try clear hfz23_1
                        try clear hfz23_2
                        try clear hfz23_3
                        try clear hfz23_4
                        try clear hfz28_0
                        try clear hfz28_1
                        try clear hfz28_10
                        try clear hfz28_11
                        try clear hfz28_12
                        try clear hfz28_2
                        try clear hfz28_3
                        try clear hfz28_4
                        try clear hfz28_5
                        try clear hfz28_6
                        try clear hfz28_7
                        try clear hfz28_8
                        try clear hfz28_9
                        try clear hfz30_0
                        try clear hfz30_1
                        try clear hfz30_2
                        try clear hfz30_3
                        try clear hfz30_4
                        try clear p2
                        try clear q4
                        try clear q41
                        obtain ⟨x13_3, x14_3, rfl, rfl, HA, HK3, HO_8, HO_11, HO_219000, HO_219001, HO_219002, HO_219003, HO_219004, HO_220001, HO_220002, HO_220003, HO_220004, BK188, BK218, BK219, HB⟩ := hrel
                        cases gk with
                        | zero => exact absurd HA.out (by simp [proofmarklaw27_LiftLines.l0])
                        | succ k3 =>
                          have H := HA.out
                          clear HA
                          simp only [proofmarklaw27_LiftLines.l0] at H
                          by_cases c52 : x14_3 < (t223.size : Int)
                          · rw [if_pos c52] at H
                            have c52b0 : decide (x14_3 < (t223.size : Int)) = true := decide_eq_true c52
                            clear c52
                            by_cases c53 : 0 ≤ x14_3
                            · rw [if_pos c53] at H
                              have c53b0 : decide (0 ≤ x14_3) = true := decide_eq_true c53
                              clear c53
                              by_cases c55 : (bt t223 x14_3) = 10
                              · rw [if_pos c55] at H
                                have c55b0 : ((bt t223 x14_3) == 10) = true := beq_iff_eq.mpr c55
                                have c55b1 : ((bt t223 x14_3) != 10) = false := bne_eq_false_iff_eq.mpr c55
                                clear c55
                                have H' := Aside0.mk H
                                clear H
                                have p54 : 0 ≤ (x14_3 : Int) := of_decide_eq_true (by first | (with_reducible assumption) | assumption)
                                have q54 : x14_3 < (t223.size : Int) := of_decide_eq_true (by first | (with_reducible assumption) | assumption)
                                have hx54 := bt_at t223 x14_3
                                replace p54 := eq_true p54
                                replace q54 := eq_true q54
                                go_wp2
                                go_roundg k3
                                case measure => have := HJ6.out; have := HJ38.out; have := HK3.out; omega
                                case rel => exact ⟨(wrap64 (x13_3 + 1)), (wrap64 (x14_3 + 1)), (by first | rfl | (simp; done) | (simp [*]; done)), (by first | rfl | (simp; done) | (simp [*]; done)), H', ⟨by have := HJ6.out; have := HJ38.out; have := HK3.out; omega⟩, ⟨by (with_reducible repeat (first | apply Kd.S_alloc | apply Kd.S_drewN | apply Kd.S_drew)); exact HO_8.out⟩, ⟨by (with_reducible repeat (first | apply Kd.S_alloc | apply Kd.S_drewN | apply Kd.S_drew)); exact HO_11.out⟩, ⟨by (with_reducible repeat (first | apply Kd.R_alloc | apply Kd.R_drewN | apply Kd.R_drew)); exact HO_219000.out⟩, ⟨by (with_reducible repeat (first | apply Kd.R_alloc | apply Kd.R_drewN | apply Kd.R_drew)); exact HO_219001.out⟩, ⟨by (with_reducible repeat (first | apply Kd.R_alloc | apply Kd.R_drewN | apply Kd.R_drew)); exact HO_219002.out⟩, ⟨by (with_reducible repeat (first | apply Kd.R_alloc | apply Kd.R_drewN | apply Kd.R_drew)); exact HO_219003.out⟩, ⟨by (with_reducible repeat (first | apply Kd.R_alloc | apply Kd.R_drewN | apply Kd.R_drew)); exact HO_219004.out⟩, ⟨by (with_reducible repeat (first | apply Kd.R_alloc | apply Kd.R_drewN | apply Kd.R_drew)); exact HO_220001.out⟩, ⟨by (with_reducible repeat (first | apply Kd.R_alloc | apply Kd.R_drewN | apply Kd.R_drew)); exact HO_220002.out⟩, ⟨by (with_reducible repeat (first | apply Kd.R_alloc | apply Kd.R_drewN | apply Kd.R_drew)); exact HO_220003.out⟩, ⟨by (with_reducible repeat (first | apply Kd.R_alloc | apply Kd.R_drewN | apply Kd.R_drew)); exact HO_220004.out⟩, ⟨by (with_reducible repeat (first | refine blk_drewN ?_ _ | refine blk_drew ?_ | refine blk_alloc ?_ _)); exact BK188.out⟩, ⟨by (with_reducible repeat (first | refine blk_drewN ?_ _ | refine blk_drew ?_ | refine blk_alloc ?_ _)); exact BK218.out⟩, ⟨by (with_reducible repeat (first | refine blk_drewN ?_ _ | refine blk_drew ?_ | refine blk_alloc ?_ _)); exact BK219.out⟩,⟨by repeat (first | (with_reducible first | exact HB.out | apply below_alloc | apply pw_below_drewN | apply below_drew1 | refine below_set ?_ GE188.out | refine below_set ?_ GE218.out | refine below_set ?_ GE219.out) | exact HB.out)⟩⟩
                              · rw [if_neg c55] at H
                                have c55b0 : ((bt t223 x14_3) == 10) = false := beq_eq_false_iff_ne.mpr c55
                                have c55b1 : ((bt t223 x14_3) != 10) = true := bne_iff_ne.mpr c55
                                have H' := Aside0.mk H
                                clear H
                                have p54 : 0 ≤ (x14_3 : Int) := of_decide_eq_true (by first | (with_reducible assumption) | assumption)
                                have q54 : x14_3 < (t223.size : Int) := of_decide_eq_true (by first | (with_reducible assumption) | assumption)
                                have hx54 := bt_at t223 x14_3
                                replace p54 := eq_true p54
                                replace q54 := eq_true q54
                                go_wp2
                                go_roundg k3
                                case measure => have := HJ6.out; have := HJ38.out; have := HK3.out; omega
                                case rel => exact ⟨(x13_3), (wrap64 (x14_3 + 1)), (by first | rfl | (simp; done) | (simp [*]; done)), (by first | rfl | (simp; done) | (simp [*]; done)), H', ⟨by have := HJ6.out; have := HJ38.out; have := HK3.out; omega⟩, ⟨by (with_reducible repeat (first | apply Kd.S_alloc | apply Kd.S_drewN | apply Kd.S_drew)); exact HO_8.out⟩, ⟨by (with_reducible repeat (first | apply Kd.S_alloc | apply Kd.S_drewN | apply Kd.S_drew)); exact HO_11.out⟩, ⟨by (with_reducible repeat (first | apply Kd.R_alloc | apply Kd.R_drewN | apply Kd.R_drew)); exact HO_219000.out⟩, ⟨by (with_reducible repeat (first | apply Kd.R_alloc | apply Kd.R_drewN | apply Kd.R_drew)); exact HO_219001.out⟩, ⟨by (with_reducible repeat (first | apply Kd.R_alloc | apply Kd.R_drewN | apply Kd.R_drew)); exact HO_219002.out⟩, ⟨by (with_reducible repeat (first | apply Kd.R_alloc | apply Kd.R_drewN | apply Kd.R_drew)); exact HO_219003.out⟩, ⟨by (with_reducible repeat (first | apply Kd.R_alloc | apply Kd.R_drewN | apply Kd.R_drew)); exact HO_219004.out⟩, ⟨by (with_reducible repeat (first | apply Kd.R_alloc | apply Kd.R_drewN | apply Kd.R_drew)); exact HO_220001.out⟩, ⟨by (with_reducible repeat (first | apply Kd.R_alloc | apply Kd.R_drewN | apply Kd.R_drew)); exact HO_220002.out⟩, ⟨by (with_reducible repeat (first | apply Kd.R_alloc | apply Kd.R_drewN | apply Kd.R_drew)); exact HO_220003.out⟩, ⟨by (with_reducible repeat (first | apply Kd.R_alloc | apply Kd.R_drewN | apply Kd.R_drew)); exact HO_220004.out⟩, ⟨by (with_reducible repeat (first | refine blk_drewN ?_ _ | refine blk_drew ?_ | refine blk_alloc ?_ _)); exact BK188.out⟩, ⟨by (with_reducible repeat (first | refine blk_drewN ?_ _ | refine blk_drew ?_ | refine blk_alloc ?_ _)); exact BK218.out⟩, ⟨by (with_reducible repeat (first | refine blk_drewN ?_ _ | refine blk_drew ?_ | refine blk_alloc ?_ _)); exact BK219.out⟩,⟨by repeat (first | (with_reducible first | exact HB.out | apply below_alloc | apply pw_below_drewN | apply below_drew1 | refine below_set ?_ GE188.out | refine below_set ?_ GE218.out | refine below_set ?_ GE219.out) | exact HB.out)⟩⟩
                            · rw [if_neg c53] at H
                              exact absurd H (by simp)
                          · rw [if_neg c52] at H
                            have c52b0 : decide (x14_3 < (t223.size : Int)) = false := decide_eq_false c52
                            clear c52
                            by_cases c56 : t189 = true
                            · subst c56
                              have H1 : (if t232 = true then (if 0 ≤ a1 then (if a1 ≤ (t220.length : Int) then ((proofmarkref27_SameRows.f k3 t229 (t220.take (a1 : Int).toNat)).bind fun t237 => (if t237 = true then (some (x13_3 == (t220.length : Int))) else (some false))) else (none)) else (none)) else (some false)) = some r := by rw [if_pos rfl] at H; exact H
                              clear H
                              have H := H1
                              clear H1
                              by_cases c57 : t232 = true
                              · subst c57
                                have H1 : (if 0 ≤ a1 then (if a1 ≤ (t220.length : Int) then ((proofmarkref27_SameRows.f k3 t229 (t220.take (a1 : Int).toNat)).bind fun t237 => (if t237 = true then (some (x13_3 == (t220.length : Int))) else (some false))) else (none)) else (none)) = some r := by rw [if_pos rfl] at H; exact H
                                clear H
                                have H := H1
                                clear H1
                                by_cases c58 : 0 ≤ a1
                                · rw [if_pos c58] at H
                                  have c58b0 := eq_true c58
                                  have c58b1 : decide (0 ≤ a1) = true := decide_eq_true c58
                                  clear c58
                                  by_cases c59 : a1 ≤ (t220.length : Int)
                                  · rw [if_pos c59] at H
                                    have c59b0 := eq_true c59
                                    have c59b1 : decide (a1 ≤ (t220.length : Int)) = true := decide_eq_true c59
                                    clear c59
                                    obtain ⟨y233, hy233⟩ : ∃ y_ : List (List Int), y_ = (t220.take (a1 : Int).toNat) := ⟨_, rfl⟩
                                    replace H : ((proofmarkref27_SameRows.f k3 t229 y233).bind fun t237 => (if t237 = true then (some (x13_3 == (t220.length : Int))) else (some false))) = some r := by first | (rw [hy233]; with_reducible exact H) | (have H2_ := (Option.bind_some _ _).symm.trans H; rw [hy233]; with_reducible exact H2_) | (have H2_ := (Option.bind_some _ _).symm.trans H; with_reducible exact H2_) | with_reducible exact H | (rw [hy233]; exact H) | exact H
                                    have Ny233 := Aside0.mk hy233
                                    clear hy233
                                    have ey_ : y224 = y233 := Ny224.out.trans Ny233.out.symm
                                    subst y224
                                    replace H := Option.bind_eq_some_iff.mp H
                                    obtain ⟨t237, A600, H⟩ := H
                                    replace H : (if t237 = true then (some (x13_3 == (t220.length : Int))) else (some false)) = some r := H
                                    have A60 := Aside0.mk A600
                                    clear A600
                                    by_cases c61 : t237 = true
                                    · subst c61
                                      have H1 : (some (x13_3 == (t220.length : Int))) = some r := by rw [if_pos rfl] at H; exact H
                                      clear H
                                      have H := H1
                                      clear H1
                                      obtain rfl := Option.some.inj H
                                      have q62 : (a1 : Int) ≤ ((t220.length : Int) : Int) := of_decide_eq_true (by first | (with_reducible assumption) | assumption)
                                      obtain ⟨i062, hi062, _, hsz62, _⟩ := info_parts info55
                                      have hroom62 : t220.length ≤ co31 := (Kd.S_reads' HO_8.out).2.1
                                      have hC62 : Kd.C (Kd.slice 3 (Kd.int .i64)) _ Ao31 t220.length t220 := (Kd.S_reads' HO_8.out).2.2
                                      have hcut62 := cut_to (P := Tryd.prog) 28 55 .i64 Tryd.underlying28 hi062 Ao31 t220.length co31 a1 (of_decide_eq_true (by first | (with_reducible assumption) | assumption)) q62 hroom62
                                      have hr62 := Kd.C_take (m := (a1 : Int).toNat) hC62 (by omega)
                                      have hy62 : y233.length = (a1 : Int).toNat := (by rw [Ny233.out, List.length_take]; omega)
                                      rw [← Ny233.out] at hr62
                                      rw [← hy62] at hcut62
                                      have HR236 := Aside0.mk hr62
                                      have HC236 := Aside0.mk (show y233.length ≤ co31 from by omega)
                                      clear hr62 hC62 hroom62 hi062 hsz62
                                      have KY62 := Aside0.mk hy62
                                      clear hy62
                                      have KL62 := Aside0.mk (show (a1 : Int).toNat ≤ t220.length from by omega)
                                      replace q62 := eq_true q62
                                      obtain ⟨Ao63, co63, eo63⟩ := Kd.S_slice HO_11.out
                                      subst eo63
                                      go_wp2_with (first | (go_at_call 31; (with_reducible refine (proofmarkref27_SameRows.calls k3 _ _ t229 _ _ y233 true _ ?side1 ?side2 ?side3 ?side4 A60.out).mono ?_); (case side1 => repeat (first | exact (Kd.S_reads' HO_11.out).2.2 | (with_reducible refine Kd.C_alloc ?_ _) | (with_reducible refine Kd.C_drewN ?_ _) | (with_reducible refine Kd.C_drew ?_))); (case side2 => exact (Kd.S_reads' HO_11.out).2.1); (case side3 => repeat (first | exact (by repeat (first | (with_reducible exact HR236.out) | (with_reducible refine Kd.C_alloc ?_ _) | (with_reducible refine Kd.C_drewN ?_ _) | (with_reducible refine Kd.C_drew ?_) | exact HR236.out)) | (with_reducible refine Kd.C_alloc ?_ _) | (with_reducible refine Kd.C_drewN ?_ _) | (with_reducible refine Kd.C_drew ?_))); (case side4 => exact HC236.out); rintro e w' ⟨rfl, ⟨nd, rfl⟩⟩))
                                      go_ret
                                      exact ⟨by first | rfl | (simp [errW_none, errW_some] <;> rfl) | (simp [*, errW_none, errW_some] <;> rfl), by repeat (first | (with_reducible first | exact HB.out | apply below_alloc | apply pw_below_drewN | apply below_drew1 | refine below_set ?_ GE188.out | refine below_set ?_ GE218.out | refine below_set ?_ GE219.out) | exact HB.out)⟩
                                    · replace c61 := Bool.eq_false_iff.mpr c61
                                      subst c61
                                      have H1 : (some false) = some r := by rw [if_neg (show ¬ (false = true) by decide)] at H; exact H
                                      exact absurd (Option.some.inj H1) (by rw [HRT.out]; decide)
                                  · rw [if_neg c59] at H
                                    exact absurd H (by simp)
                                · rw [if_neg c58] at H
                                  exact absurd H (by simp)
                              · replace c57 := Bool.eq_false_iff.mpr c57
                                subst c57
                                have H1 : (some false) = some r := by rw [if_neg (show ¬ (false = true) by decide)] at H; exact H
                                exact absurd (Option.some.inj H1) (by rw [HRT.out]; decide)
                            · replace c56 := Bool.eq_false_iff.mpr c56
                              subst c56
                              have H1 : (some false) = some r := by rw [if_neg (show ¬ (false = true) by decide)] at H; exact H
                              exact absurd (Option.some.inj H1) (by rw [HRT.out]; decide)
                    · rw [if_neg c48] at H
                      exact absurd H (by simp)
                  · rw [if_neg c47] at H
                    exact absurd H (by simp)
          · rw [if_neg c37] at H
            exact absurd H (by simp)
        · rw [if_neg c36] at H
          exact absurd H (by simp)


end Go.Proofs.YtmfekngjhiofaaaDoor.Q
