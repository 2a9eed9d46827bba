-- Written by the session's own programs (wip/tools/ownprint.py, prune.py) for this claim: one function of the translation, the ways on which it answers true.
import Derived.Test.YtmfekngjhiofaaaGreatDoorQx0
import Derived.Test.YtmfekngjhiofaaaGreatDoorHHeadL
import Derived.Test.YtmfekngjhiofaaaGreatDoorQx4
import Derived.Test.YtmfekngjhiofaaaGreatDoorQx10
import Derived.Test.YtmfekngjhiofaaaGreatDoorQx11
import Derived.Test.YtmfekngjhiofaaaGreatDoorQx20
import Derived.Test.YtmfekngjhiofaaaGreatDoorHLits
import Derived.Test.YtmfekngjhiofaaaGreatDoorHRClause
import Derived.Test.YtmfekngjhiofaaaGreatDoorHTab
namespace Go.Proofs.YtmfekngjhiofaaaGreatDoor.Q
open Go.RowKit Go.Proofs.YtmfekngjhiofaaaGreatDoorW.PrintWords Go.Proofs.YtmfekngjhiofaaaGreatDoorW.PrintLast Go.Proofs.YtmfekngjhiofaaaGreatDoorW.PrintMore
attribute [local go_sem] max2_int min2_int max_two min_two max_three min_three max_four min_four   -- for this text's walks alone
set_option linter.unusedVariables false
set_option linter.unusedSimpArgs false

/-! ### proofmarklaw27_LiftSays: function 4 -/
def proofmarklaw27_LiftSays.f (k : Nat) (l0_0 : List (S125)) (l0_1 : List (S72)) (l0_2 : List (S114)) (l0_3 : List (S105)) (l0_4 : List (S72)) (a0_5 : Int) (l0_6 : List (S199)) (l0_7 : List (S200)) (l0_8 : List (S94)) (l0_9 : List (S202)) (l0_10 : List (List Int)) (l0_11 : List Int) (a0_12 : ByteArray) : Option (Bool) := (proofmarklaw27_head.f k).bind fun t229 => ((proofmarklaw27_fit.f k l0_0 l0_1 l0_2 l0_3 l0_4 a0_5 l0_6 l0_7 l0_8 l0_9 l0_10 l0_11 a0_12).bind fun bt230 => (if 0 ≤ (mn (l0_11.length : Int) 30) then (if (mn (l0_11.length : Int) 30) ≤ (l0_11.length : Int) then (if 0 ≤ (mn (a0_12.size : Int) 2000) then (if (mn (a0_12.size : Int) 2000) ≤ (a0_12.size : Int) then ((lift_Lits.f bt230.1 bt230.2.1 bt230.2.2.1 bt230.2.2.2.1 bt230.2.2.2.2.1 bt230.2.2.2.2.2.1 bt230.2.2.2.2.2.2.1 bt230.2.2.2.2.2.2.2.1 bt230.2.2.2.2.2.2.2.2.1 bt230.2.2.2.2.2.2.2.2.2 (a0_12.extract 0 ((mn (a0_12.size : Int) 2000) : Int).toNat)).bind fun bt261 => ((proofmarkref27_Lits.f k bt230.1 bt230.2.1 bt230.2.2.1 bt230.2.2.2.1 bt230.2.2.2.2.1 bt230.2.2.2.2.2.1 bt230.2.2.2.2.2.2.1 bt230.2.2.2.2.2.2.2.1 bt230.2.2.2.2.2.2.2.2.1 bt230.2.2.2.2.2.2.2.2.2 (a0_12.extract 0 ((mn (a0_12.size : Int) 2000) : Int).toNat)).bind fun bt265 => (if t229 = true then ((lift_Clause.f bt230.1 bt230.2.1 bt230.2.2.1 bt230.2.2.2.1 bt230.2.2.2.2.1 bt230.2.2.2.2.2.1 bt230.2.2.2.2.2.2.1 bt230.2.2.2.2.2.2.2.1 bt230.2.2.2.2.2.2.2.2.1 bt230.2.2.2.2.2.2.2.2.2 (l0_11.take ((mn (l0_11.length : Int) 30) : Int).toNat)).bind fun t269 => ((proofmarkref27_Clause.f bt230.1 bt230.2.1 bt230.2.2.1 bt230.2.2.2.1 bt230.2.2.2.2.1 bt230.2.2.2.2.2.1 bt230.2.2.2.2.2.2.1 bt230.2.2.2.2.2.2.2.1 bt230.2.2.2.2.2.2.2.2.1 bt230.2.2.2.2.2.2.2.2.2 (l0_11.take ((mn (l0_11.length : Int) 30) : Int).toNat)).bind fun t270 => (if t269.toList = t270.toList then (if (bt261.2 == bt265.2) = true then ((proofmarkref27_SameInts.f k bt261.1 bt265.1).bind fun t271 => (some t271)) else (some false)) else (some false)))) else (some false)))) else (none)) else (none)) else (none)) else (none)))
theorem proofmarklaw27_LiftSays.mono : ∀ a0 a1 a2 a3 a4 a5 a6 a7 a8 a9 a10 a11 a12 k, LeO (proofmarklaw27_LiftSays.f k a0 a1 a2 a3 a4 a5 a6 a7 a8 a9 a10 a11 a12) (proofmarklaw27_LiftSays.f (k + 1) a0 a1 a2 a3 a4 a5 a6 a7 a8 a9 a10 a11 a12) := by
  intro a0 a1 a2 a3 a4 a5 a6 a7 a8 a9 a10 a11 a12 k
  unfold proofmarklaw27_LiftSays.f
  repeat' first
      | (with_reducible exact proofmarklaw27_fit.mono _ _ _ _ _ _ _ _ _ _ _ _ _ _)
      | (with_reducible exact proofmarklaw27_head.mono _)
      | (with_reducible exact proofmarkref27_Lits.mono _ _ _ _ _ _ _ _ _ _ _ _)
      | (with_reducible exact proofmarkref27_SameInts.mono _ _ _)
      | (with_reducible exact LeO.refl _)
      | (with_reducible exact LeO.none _)
      | (with_reducible refine LeO.ite ?_ ?_)
      | (with_reducible refine LeO.bind ?_ (fun _ => ?_))
      | exact proofmarklaw27_fit.mono _ _ _ _ _ _ _ _ _ _ _ _ _ _
      | exact proofmarklaw27_head.mono _
      | exact proofmarkref27_Lits.mono _ _ _ _ _ _ _ _ _ _ _ _
      | exact proofmarkref27_SameInts.mono _ _ _
      | exact LeO.none _
      | refine LeO.ite ?_ ?_
      | refine LeO.bind ?_ (fun _ => ?_)
def proofmarklaw27_LiftSays.T7 : Bool × List (List Nat × List Nat) := (true, [([], []), ([0], [0]), ([1], [1]), ([1], [1]), ([1], [1]), ([2, 3, 4, 1, 1], [1, 2, 3, 4]), ([1], [1]), ([1], [1]), ([1], [1]), ([6, 7, 8, 5, 1], [1, 6, 7, 8]), ([5, 9, 1], [1, 5, 9]), ([1, 10], [1, 10]), ([11, 9], [11]), ([12], [12]), ([12], [12]), ([13, 14, 12], [12, 13, 14]), ([12, 15], [12, 15]), ([16, 12], [16]), ([17], [17]), ([17], [17]), ([18, 19, 17, 17], [17, 18, 19]), ([17, 20], [17, 20]), ([21, 20, 0, 1, 2, 3, 4, 5, 6, 7, 8, 9, 10, 11, 12, 13, 14, 15, 16, 17, 18, 19, 20, 21], [21])])
def proofmarklaw27_LiftSays.B7 : List Nat := [0, 1, 3, 3, 3, 31, 3, 3, 3, 511, 1023, 2047, 4095, 8191, 8191, 32767, 65535, 131071, 262143, 262143, 1048575, 2097151, 4194303]
theorem proofmarklaw27_LiftSays.tab7 : rtab .any (opsOf Tryz.f4 7) = proofmarklaw27_LiftSays.T7 := by kernel_rfl
theorem proofmarklaw27_LiftSays.bits7 : waitsOk proofmarklaw27_LiftSays.T7.2 proofmarklaw27_LiftSays.B7 = true := by kernel_rfl
set_option maxHeartbeats 8000000 in
set_option maxRecDepth 100000 in
theorem proofmarklaw27_LiftSays.calls1 (k : Nat) (A0_0 : Option Addr) (c0_0 : Nat) (l0_0 : List (S125)) (A0_1 : Option Addr) (c0_1 : Nat) (l0_1 : List (S72)) (A0_2 : Option Addr) (c0_2 : Nat) (l0_2 : List (S114)) (A0_3 : Option Addr) (c0_3 : Nat) (l0_3 : List (S105)) (A0_4 : Option Addr) (c0_4 : Nat) (l0_4 : List (S72)) (a0_5 : Int) (A0_6 : Option Addr) (c0_6 : Nat) (l0_6 : List (S199)) (A0_7 : Option Addr) (c0_7 : Nat) (l0_7 : List (S200)) (A0_8 : Option Addr) (c0_8 : Nat) (l0_8 : List (S94)) (A0_9 : Option Addr) (c0_9 : Nat) (l0_9 : List (S202)) (A0_10 : Option Addr) (c0_10 : Nat) (l0_10 : List (List Int)) (A0_11 : Option Addr) (c0_11 : Nat) (l0_11 : List Int) (a0_12 : ByteArray) (r : Bool) (w : World) (hG : Tab w) (hr0_0 : Kd.C k125 w A0_0 l0_0.length l0_0) (hc0_0 : l0_0.length ≤ c0_0) (hr0_1 : Kd.C k72 w A0_1 l0_1.length l0_1) (hc0_1 : l0_1.length ≤ c0_1) (hr0_2 : Kd.C k114 w A0_2 l0_2.length l0_2) (hc0_2 : l0_2.length ≤ c0_2) (hr0_3 : Kd.C k105 w A0_3 l0_3.length l0_3) (hc0_3 : l0_3.length ≤ c0_3) (hr0_4 : Kd.C k72 w A0_4 l0_4.length l0_4) (hc0_4 : l0_4.length ≤ c0_4) (hr0_6 : Kd.C k199 w A0_6 l0_6.length l0_6) (hc0_6 : l0_6.length ≤ c0_6) (hr0_7 : Kd.C k200 w A0_7 l0_7.length l0_7) (hc0_7 : l0_7.length ≤ c0_7) (hr0_8 : Kd.C k94 w A0_8 l0_8.length l0_8) (hc0_8 : l0_8.length ≤ c0_8) (hr0_9 : Kd.C k202 w A0_9 l0_9.length l0_9) (hc0_9 : l0_9.length ≤ c0_9) (hr0_10 : Kd.C (Kd.slice 3 (Kd.int .i64)) w A0_10 l0_10.length l0_10) (hc0_10 : l0_10.length ≤ c0_10) (hr0_11 : Kd.C (Kd.int .i64) w A0_11 l0_11.length l0_11) (hc0_11 : l0_11.length ≤ c0_11) (h : proofmarklaw27_LiftSays.f k l0_0 l0_1 l0_2 l0_3 l0_4 a0_5 l0_6 l0_7 l0_8 l0_9 l0_10 l0_11 a0_12 = some r) (hr : r = true) :
    Calls Tryz.prog 4 #[.agg #[.slice A0_0 l0_0.length c0_0, .slice A0_1 l0_1.length c0_1, .slice A0_2 l0_2.length c0_2, .slice A0_3 l0_3.length c0_3, .slice A0_4 l0_4.length c0_4, .int .i64 a0_5, .slice A0_6 l0_6.length c0_6, .slice A0_7 l0_7.length c0_7, .slice A0_8 l0_8.length c0_8, .slice A0_9 l0_9.length c0_9, .slice A0_10 l0_10.length c0_10, .slice A0_11 l0_11.length c0_11, .string a0_12]] w fun e w' => e = .returned (.bool r) ∧ Below w.heap.size w w' := by
  have HRT := Aside0.mk hr
  clear hr
  have HG := Aside0.mk hG
  clear hG
  have hu39 := Tryz.underlying39
  have hu27 := Tryz.underlying27
  have hu35 := Tryz.underlying35
  have HR0_0 := Aside0.mk hr0_0
  have HC0_0 := Aside0.mk hc0_0
  clear hr0_0 hc0_0
  have HR0_1 := Aside0.mk hr0_1
  have HC0_1 := Aside0.mk hc0_1
  clear hr0_1 hc0_1
  have HR0_2 := Aside0.mk hr0_2
  have HC0_2 := Aside0.mk hc0_2
  clear hr0_2 hc0_2
  have HR0_3 := Aside0.mk hr0_3
  have HC0_3 := Aside0.mk hc0_3
  clear hr0_3 hc0_3
  have HR0_4 := Aside0.mk hr0_4
  have HC0_4 := Aside0.mk hc0_4
  clear hr0_4 hc0_4
  have HR0_6 := Aside0.mk hr0_6
  have HC0_6 := Aside0.mk hc0_6
  clear hr0_6 hc0_6
  have HR0_7 := Aside0.mk hr0_7
  have HC0_7 := Aside0.mk hc0_7
  clear hr0_7 hc0_7
  have HR0_8 := Aside0.mk hr0_8
  have HC0_8 := Aside0.mk hc0_8
  clear hr0_8 hc0_8
  have HR0_9 := Aside0.mk hr0_9
  have HC0_9 := Aside0.mk hc0_9
  clear hr0_9 hc0_9
  have HR0_10 := Aside0.mk hr0_10
  have HC0_10 := Aside0.mk hc0_10
  clear hr0_10 hc0_10
  have HR0_11 := Aside0.mk hr0_11
  have HC0_11 := Aside0.mk hc0_11
  clear hr0_11 hc0_11
  have HB := Aside0.mk (Below.refl w.heap.size w)
  have H : ((proofmarklaw27_head.f k).bind fun t229 => ((proofmarklaw27_fit.f k l0_0 l0_1 l0_2 l0_3 l0_4 a0_5 l0_6 l0_7 l0_8 l0_9 l0_10 l0_11 a0_12).bind fun bt230 => (if 0 ≤ (mn (l0_11.length : Int) 30) then (if (mn (l0_11.length : Int) 30) ≤ (l0_11.length : Int) then (if 0 ≤ (mn (a0_12.size : Int) 2000) then (if (mn (a0_12.size : Int) 2000) ≤ (a0_12.size : Int) then ((lift_Lits.f bt230.1 bt230.2.1 bt230.2.2.1 bt230.2.2.2.1 bt230.2.2.2.2.1 bt230.2.2.2.2.2.1 bt230.2.2.2.2.2.2.1 bt230.2.2.2.2.2.2.2.1 bt230.2.2.2.2.2.2.2.2.1 bt230.2.2.2.2.2.2.2.2.2 (a0_12.extract 0 ((mn (a0_12.size : Int) 2000) : Int).toNat)).bind fun bt261 => ((proofmarkref27_Lits.f k bt230.1 bt230.2.1 bt230.2.2.1 bt230.2.2.2.1 bt230.2.2.2.2.1 bt230.2.2.2.2.2.1 bt230.2.2.2.2.2.2.1 bt230.2.2.2.2.2.2.2.1 bt230.2.2.2.2.2.2.2.2.1 bt230.2.2.2.2.2.2.2.2.2 (a0_12.extract 0 ((mn (a0_12.size : Int) 2000) : Int).toNat)).bind fun bt265 => (if t229 = true then ((lift_Clause.f bt230.1 bt230.2.1 bt230.2.2.1 bt230.2.2.2.1 bt230.2.2.2.2.1 bt230.2.2.2.2.2.1 bt230.2.2.2.2.2.2.1 bt230.2.2.2.2.2.2.2.1 bt230.2.2.2.2.2.2.2.2.1 bt230.2.2.2.2.2.2.2.2.2 (l0_11.take ((mn (l0_11.length : Int) 30) : Int).toNat)).bind fun t269 => ((proofmarkref27_Clause.f bt230.1 bt230.2.1 bt230.2.2.1 bt230.2.2.2.1 bt230.2.2.2.2.1 bt230.2.2.2.2.2.1 bt230.2.2.2.2.2.2.1 bt230.2.2.2.2.2.2.2.1 bt230.2.2.2.2.2.2.2.2.1 bt230.2.2.2.2.2.2.2.2.2 (l0_11.take ((mn (l0_11.length : Int) 30) : Int).toNat)).bind fun t270 => (if t269.toList = t270.toList then (if (bt261.2 == bt265.2) = true then ((proofmarkref27_SameInts.f k bt261.1 bt265.1).bind fun t271 => (some t271)) else (some false)) else (some false)))) else (some false)))) else (none)) else (none)) else (none)) else (none)))) = some r := h
  clear h
  replace H := Option.bind_eq_some_iff.mp H
  obtain ⟨t229, A20, H⟩ := H
  replace H : ((proofmarklaw27_fit.f k l0_0 l0_1 l0_2 l0_3 l0_4 a0_5 l0_6 l0_7 l0_8 l0_9 l0_10 l0_11 a0_12).bind fun bt230 => (if 0 ≤ (mn (l0_11.length : Int) 30) then (if (mn (l0_11.length : Int) 30) ≤ (l0_11.length : Int) then (if 0 ≤ (mn (a0_12.size : Int) 2000) then (if (mn (a0_12.size : Int) 2000) ≤ (a0_12.size : Int) then ((lift_Lits.f bt230.1 bt230.2.1 bt230.2.2.1 bt230.2.2.2.1 bt230.2.2.2.2.1 bt230.2.2.2.2.2.1 bt230.2.2.2.2.2.2.1 bt230.2.2.2.2.2.2.2.1 bt230.2.2.2.2.2.2.2.2.1 bt230.2.2.2.2.2.2.2.2.2 (a0_12.extract 0 ((mn (a0_12.size : Int) 2000) : Int).toNat)).bind fun bt261 => ((proofmarkref27_Lits.f k bt230.1 bt230.2.1 bt230.2.2.1 bt230.2.2.2.1 bt230.2.2.2.2.1 bt230.2.2.2.2.2.1 bt230.2.2.2.2.2.2.1 bt230.2.2.2.2.2.2.2.1 bt230.2.2.2.2.2.2.2.2.1 bt230.2.2.2.2.2.2.2.2.2 (a0_12.extract 0 ((mn (a0_12.size : Int) 2000) : Int).toNat)).bind fun bt265 => (if t229 = true then ((lift_Clause.f bt230.1 bt230.2.1 bt230.2.2.1 bt230.2.2.2.1 bt230.2.2.2.2.1 bt230.2.2.2.2.2.1 bt230.2.2.2.2.2.2.1 bt230.2.2.2.2.2.2.2.1 bt230.2.2.2.2.2.2.2.2.1 bt230.2.2.2.2.2.2.2.2.2 (l0_11.take ((mn (l0_11.length : Int) 30) : Int).toNat)).bind fun t269 => ((proofmarkref27_Clause.f bt230.1 bt230.2.1 bt230.2.2.1 bt230.2.2.2.1 bt230.2.2.2.2.1 bt230.2.2.2.2.2.1 bt230.2.2.2.2.2.2.1 bt230.2.2.2.2.2.2.2.1 bt230.2.2.2.2.2.2.2.2.1 bt230.2.2.2.2.2.2.2.2.2 (l0_11.take ((mn (l0_11.length : Int) 30) : Int).toNat)).bind fun t270 => (if t269.toList = t270.toList then (if (bt261.2 == bt265.2) = true then ((proofmarkref27_SameInts.f k bt261.1 bt265.1).bind fun t271 => (some t271)) else (some false)) else (some false)))) else (some false)))) else (none)) else (none)) else (none)) else (none))) = some r := H
  have A2 := Aside0.mk A20
  clear A20
  replace H := Option.bind_eq_some_iff.mp H
  obtain ⟨⟨t230, t233, t236, t239, t242, t245, t246, t249, t252, t255⟩, A30, H⟩ := H
  replace H : (if 0 ≤ (mn (l0_11.length : Int) 30) then (if (mn (l0_11.length : Int) 30) ≤ (l0_11.length : Int) then (if 0 ≤ (mn (a0_12.size : Int) 2000) then (if (mn (a0_12.size : Int) 2000) ≤ (a0_12.size : Int) then ((lift_Lits.f t230 t233 t236 t239 t242 t245 t246 t249 t252 t255 (a0_12.extract 0 ((mn (a0_12.size : Int) 2000) : Int).toNat)).bind fun bt261 => ((proofmarkref27_Lits.f k t230 t233 t236 t239 t242 t245 t246 t249 t252 t255 (a0_12.extract 0 ((mn (a0_12.size : Int) 2000) : Int).toNat)).bind fun bt265 => (if t229 = true then ((lift_Clause.f t230 t233 t236 t239 t242 t245 t246 t249 t252 t255 (l0_11.take ((mn (l0_11.length : Int) 30) : Int).toNat)).bind fun t269 => ((proofmarkref27_Clause.f t230 t233 t236 t239 t242 t245 t246 t249 t252 t255 (l0_11.take ((mn (l0_11.length : Int) 30) : Int).toNat)).bind fun t270 => (if t269.toList = t270.toList then (if (bt261.2 == bt265.2) = true then ((proofmarkref27_SameInts.f k bt261.1 bt265.1).bind fun t271 => (some t271)) else (some false)) else (some false)))) else (some false)))) else (none)) else (none)) else (none)) else (none)) = some r := H
  have A3 := Aside0.mk A30
  clear A30
  obtain ⟨ji4, hji4⟩ : ∃ j_ : Int, (mn (l0_11.length : Int) 30) = j_ := ⟨_, rfl⟩
  replace H : (if 0 ≤ (ji4) then (if (ji4) ≤ (l0_11.length : Int) then (if 0 ≤ (mn (a0_12.size : Int) 2000) then (if (mn (a0_12.size : Int) 2000) ≤ (a0_12.size : Int) then ((lift_Lits.f t230 t233 t236 t239 t242 t245 t246 t249 t252 t255 (a0_12.extract 0 ((mn (a0_12.size : Int) 2000) : Int).toNat)).bind fun bt261 => ((proofmarkref27_Lits.f k t230 t233 t236 t239 t242 t245 t246 t249 t252 t255 (a0_12.extract 0 ((mn (a0_12.size : Int) 2000) : Int).toNat)).bind fun bt265 => (if t229 = true then ((lift_Clause.f t230 t233 t236 t239 t242 t245 t246 t249 t252 t255 (l0_11.take ((ji4) : Int).toNat)).bind fun t269 => ((proofmarkref27_Clause.f t230 t233 t236 t239 t242 t245 t246 t249 t252 t255 (l0_11.take ((ji4) : Int).toNat)).bind fun t270 => (if t269.toList = t270.toList then (if (bt261.2 == bt265.2) = true then ((proofmarkref27_SameInts.f k bt261.1 bt265.1).bind fun t271 => (some t271)) else (some false)) else (some false)))) else (some false)))) else (none)) else (none)) else (none)) else (none)) = some r := by first | (rw [hji4] at H; exact H)
  (try rw [hji4] at A2)
  (try rw [hji4] at A3)
  (try (have hji4h : ji4 ≤ 30 := by (rw [← hji4]; unfold mn; (repeat' split) <;> omega)))
  (try (have hji4g : ji4 ≤ 64 := by omega))
  (try (have hji4l : 0 ≤ ji4 := by (rw [← hji4]; unfold mn; (repeat' split) <;> omega)))
  (try (have hji4m : 0 ≤ ji4 := by omega))
  have hji4_ : (if 30 < (l0_11.length : Int) then 30 else (l0_11.length : Int)) = ji4 := hji4
  by_cases c5 : 0 ≤ (ji4)
  · rw [if_pos c5] at H
    have c5b0 := eq_true c5
    have c5b1 : decide (0 ≤ (ji4)) = true := decide_eq_true c5
    clear c5
    by_cases c6 : (ji4) ≤ (l0_11.length : Int)
    · rw [if_pos c6] at H
      have c6b0 := eq_true c6
      have c6b1 : decide ((ji4) ≤ (l0_11.length : Int)) = true := decide_eq_true c6
      clear c6
      obtain ⟨ji7, hji7⟩ : ∃ j_ : Int, (mn (a0_12.size : Int) 2000) = j_ := ⟨_, rfl⟩
      replace H : (if 0 ≤ (ji7) then (if (ji7) ≤ (a0_12.size : Int) then ((lift_Lits.f t230 t233 t236 t239 t242 t245 t246 t249 t252 t255 (a0_12.extract 0 ((ji7) : Int).toNat)).bind fun bt261 => ((proofmarkref27_Lits.f k t230 t233 t236 t239 t242 t245 t246 t249 t252 t255 (a0_12.extract 0 ((ji7) : Int).toNat)).bind fun bt265 => (if t229 = true then ((lift_Clause.f t230 t233 t236 t239 t242 t245 t246 t249 t252 t255 (l0_11.take ((ji4) : Int).toNat)).bind fun t269 => ((proofmarkref27_Clause.f t230 t233 t236 t239 t242 t245 t246 t249 t252 t255 (l0_11.take ((ji4) : Int).toNat)).bind fun t270 => (if t269.toList = t270.toList then (if (bt261.2 == bt265.2) = true then ((proofmarkref27_SameInts.f k bt261.1 bt265.1).bind fun t271 => (some t271)) else (some false)) else (some false)))) else (some false)))) else (none)) else (none)) = some r := by first | (rw [hji7] at H; exact H)
      (try rw [hji7] at A2)
      (try rw [hji7] at A3)
      (try (have hji7h : ji7 ≤ 2000 := by (rw [← hji7]; unfold mn; (repeat' split) <;> omega)))
      (try (have hji7g : ji7 ≤ 64 := by omega))
      (try (have hji7l : 0 ≤ ji7 := by (rw [← hji7]; unfold mn; (repeat' split) <;> omega)))
      (try (have hji7m : 0 ≤ ji7 := by omega))
      have hji7_ : (if 2000 < (a0_12.size : Int) then 2000 else (a0_12.size : Int)) = ji7 := hji7
      by_cases c8 : 0 ≤ (ji7)
      · rw [if_pos c8] at H
        have c8b0 := eq_true c8
        have c8b1 : decide (0 ≤ (ji7)) = true := decide_eq_true c8
        clear c8
        by_cases c9 : (ji7) ≤ (a0_12.size : Int)
        · rw [if_pos c9] at H
          have c9b0 := eq_true c9
          have c9b1 : decide ((ji7) ≤ (a0_12.size : Int)) = true := decide_eq_true c9
          clear c9
          replace H := Option.bind_eq_some_iff.mp H
          obtain ⟨⟨t261, t264⟩, A100, H⟩ := H
          replace H : ((proofmarkref27_Lits.f k t230 t233 t236 t239 t242 t245 t246 t249 t252 t255 (a0_12.extract 0 ((ji7) : Int).toNat)).bind fun bt265 => (if t229 = true then ((lift_Clause.f t230 t233 t236 t239 t242 t245 t246 t249 t252 t255 (l0_11.take ((ji4) : Int).toNat)).bind fun t269 => ((proofmarkref27_Clause.f t230 t233 t236 t239 t242 t245 t246 t249 t252 t255 (l0_11.take ((ji4) : Int).toNat)).bind fun t270 => (if t269.toList = t270.toList then (if (t264 == bt265.2) = true then ((proofmarkref27_SameInts.f k t261 bt265.1).bind fun t271 => (some t271)) else (some false)) else (some false)))) else (some false))) = some r := H
          have A10 := Aside0.mk A100
          clear A100
          replace H := Option.bind_eq_some_iff.mp H
          obtain ⟨⟨t265, t268⟩, A110, H⟩ := H
          replace H : (if t229 = true then ((lift_Clause.f t230 t233 t236 t239 t242 t245 t246 t249 t252 t255 (l0_11.take ((ji4) : Int).toNat)).bind fun t269 => ((proofmarkref27_Clause.f t230 t233 t236 t239 t242 t245 t246 t249 t252 t255 (l0_11.take ((ji4) : Int).toNat)).bind fun t270 => (if t269.toList = t270.toList then (if (t264 == t268) = true then ((proofmarkref27_SameInts.f k t261 t265).bind fun t271 => (some t271)) else (some false)) else (some false)))) else (some false)) = some r := H
          have A11 := Aside0.mk A110
          clear A110
          by_cases c12 : t229 = true
          · subst c12
            have H1 : ((lift_Clause.f t230 t233 t236 t239 t242 t245 t246 t249 t252 t255 (l0_11.take ((ji4) : Int).toNat)).bind fun t269 => ((proofmarkref27_Clause.f t230 t233 t236 t239 t242 t245 t246 t249 t252 t255 (l0_11.take ((ji4) : Int).toNat)).bind fun t270 => (if t269.toList = t270.toList then (if (t264 == t268) = true then ((proofmarkref27_SameInts.f k t261 t265).bind fun t271 => (some t271)) else (some false)) else (some false)))) = some r := by rw [if_pos rfl] at H; exact H
            clear H
            have H := H1
            clear H1
            replace H := Option.bind_eq_some_iff.mp H
            obtain ⟨t269, A130, H⟩ := H
            replace H : ((proofmarkref27_Clause.f t230 t233 t236 t239 t242 t245 t246 t249 t252 t255 (l0_11.take ((ji4) : Int).toNat)).bind fun t270 => (if t269.toList = t270.toList then (if (t264 == t268) = true then ((proofmarkref27_SameInts.f k t261 t265).bind fun t271 => (some t271)) else (some false)) else (some false))) = some r := H
            have A13 := Aside0.mk A130
            clear A130
            replace H := Option.bind_eq_some_iff.mp H
            obtain ⟨t270, A140, H⟩ := H
            replace H : (if t269.toList = t270.toList then (if (t264 == t268) = true then ((proofmarkref27_SameInts.f k t261 t265).bind fun t271 => (some t271)) else (some false)) else (some false)) = some r := H
            have A14 := Aside0.mk A140
            clear A140
            by_cases c15 : t269.toList = t270.toList
            · rw [if_pos c15] at H
              have c15b0 : (t269.toList == t270.toList) = true := beq_iff_eq.mpr c15
              have c15b1 : (t269.toList != t270.toList) = false := bne_eq_false_iff_eq.mpr c15
              clear c15
              by_cases c16 : (t264 == t268) = true
              · rw [if_pos c16] at H
                have c16b0 : (t264 == t268) = true := c16
                (try (have c16b1 : decide (t264 = t268) = true := by simpa using c16))
                (try (have c16b2 : (t264 == t268) = true := by simpa using c16))
                clear c16
                replace H := Option.bind_eq_some_iff.mp H
                obtain ⟨t271, A170, H⟩ := H
                replace H : (some t271) = some r := H
                have A17 := Aside0.mk A170
                clear A170
                obtain rfl := Option.some.inj H
                go_enter Tryz.func4, Tryz.ntmps4
                try go_wp2_with (first | ((with_reducible refine gate_dst (N := 1) rfl ?_); refine box_event ?hg (N := 1) ?hd (cs := #[.slice A0_0 l0_0.length c0_0, .slice A0_1 l0_1.length c0_1, .slice A0_2 l0_2.length c0_2, .slice A0_3 l0_3.length c0_3, .slice A0_4 l0_4.length c0_4, .int .i64 a0_5, .slice A0_6 l0_6.length c0_6, .slice A0_7 l0_7.length c0_7, .slice A0_8 l0_8.length c0_8, .slice A0_9 l0_9.length c0_9, .slice A0_10 l0_10.length c0_10, .slice A0_11 l0_11.length c0_11, .string a0_12]) (t := 39) ?hr ?_; (case hd => rfl); (case hg => rfl); (case hr => first | (go_simp; done)); intro gb228 hg w18 hbox hb; have n0_ := Aside0.mk (below_step HB.out hb); have n1_ := Aside0.mk (hbox); have n2_ := Aside0.mk ((by rw [hg]; exact (below_size HB.out) : w.heap.size ≤ gb228)); have n3_ := Aside0.mk ((by rw [hg]; exact (below_size HB.out) : w.heap.size ≤ gb228)); clear HB; have HB := n0_; have BK228 := n1_; have GW228 := n2_; have GE228 := n3_; clear n0_ n1_ n2_ n3_; clear hb hbox hg) | ((with_reducible refine gate_callee (f := 6) rfl ?_); refine goesL_ (some 12) rfl rfl Tryz.func6 (by kernel_rfl) rfl #[] rfl (by (try simp only [List.map_toArray, List.map_cons, List.map_nil]); first | done) ?_; (with_reducible refine (proofmarklaw27_head.calls k true _ (by first | (refine tab_below HG.out ?_; repeat (first | (with_reducible first | exact HB.out)))) A2.out).mono ?_); rintro e w19 ⟨rfl, hb⟩; refine ⟨_, rfl, ?_⟩; have n0_ := Aside0.mk (blk_below BK228.out hb); have n1_ := Aside0.mk (below_step HB.out hb); clear BK228; clear HB; have BK228 := n0_; have HB := n1_; clear n0_ n1_; (try clear hb); (try clear hb2); (try clear hk); (try clear hi); have hcz20_0 : w19.cell? ⟨gb228, 0, none⟩ = some (.slice A0_0 l0_0.length c0_0) := (blk_cell BK228.out 0).trans rfl; have hcz20_1 : w19.cell? ⟨gb228, 1, none⟩ = some (.slice A0_1 l0_1.length c0_1) := (blk_cell BK228.out 1).trans rfl; have hcz20_2 : w19.cell? ⟨gb228, 2, none⟩ = some (.slice A0_2 l0_2.length c0_2) := (blk_cell BK228.out 2).trans rfl; have hcz20_3 : w19.cell? ⟨gb228, 3, none⟩ = some (.slice A0_3 l0_3.length c0_3) := (blk_cell BK228.out 3).trans rfl; have hcz20_4 : w19.cell? ⟨gb228, 4, none⟩ = some (.slice A0_4 l0_4.length c0_4) := (blk_cell BK228.out 4).trans rfl; have hcz20_5 : w19.cell? ⟨gb228, 5, none⟩ = some (.int .i64 a0_5) := (blk_cell BK228.out 5).trans rfl; have hcz20_6 : w19.cell? ⟨gb228, 6, none⟩ = some (.slice A0_6 l0_6.length c0_6) := (blk_cell BK228.out 6).trans rfl; have hcz20_7 : w19.cell? ⟨gb228, 7, none⟩ = some (.slice A0_7 l0_7.length c0_7) := (blk_cell BK228.out 7).trans rfl; have hcz20_8 : w19.cell? ⟨gb228, 8, none⟩ = some (.slice A0_8 l0_8.length c0_8) := (blk_cell BK228.out 8).trans rfl; have hcz20_9 : w19.cell? ⟨gb228, 9, none⟩ = some (.slice A0_9 l0_9.length c0_9) := (blk_cell BK228.out 9).trans rfl; have hcz20_10 : w19.cell? ⟨gb228, 10, none⟩ = some (.slice A0_10 l0_10.length c0_10) := (blk_cell BK228.out 10).trans rfl; have hcz20_11 : w19.cell? ⟨gb228, 11, none⟩ = some (.slice A0_11 l0_11.length c0_11) := (blk_cell BK228.out 11).trans rfl; have hcz20_12 : w19.cell? ⟨gb228, 12, none⟩ = some (.string a0_12) := (blk_cell BK228.out 12).trans rfl; have hfz20_0 := blk_frozen BK228.out 0; have hfz20_1 := blk_frozen BK228.out 1; have hfz20_2 := blk_frozen BK228.out 2; have hfz20_3 := blk_frozen BK228.out 3; have hfz20_4 := blk_frozen BK228.out 4; have hfz20_5 := blk_frozen BK228.out 5; have hfz20_6 := blk_frozen BK228.out 6; have hfz20_7 := blk_frozen BK228.out 7; have hfz20_8 := blk_frozen BK228.out 8; have hfz20_9 := blk_frozen BK228.out 9; have hfz20_10 := blk_frozen BK228.out 10; have hfz20_11 := blk_frozen BK228.out 11; have hfz20_12 := blk_frozen BK228.out 12) | ((with_reducible refine gate_callee (f := 7) rfl ?_); refine goesL_ (some 15) rfl rfl Tryz.func7 (by kernel_rfl) rfl #[.agg #[.slice A0_0 l0_0.length c0_0, .slice A0_1 l0_1.length c0_1, .slice A0_2 l0_2.length c0_2, .slice A0_3 l0_3.length c0_3, .slice A0_4 l0_4.length c0_4, .int .i64 a0_5, .slice A0_6 l0_6.length c0_6, .slice A0_7 l0_7.length c0_7, .slice A0_8 l0_8.length c0_8, .slice A0_9 l0_9.length c0_9, .slice A0_10 l0_10.length c0_10, .slice A0_11 l0_11.length c0_11, .string a0_12]] rfl (by (try simp only [List.map_toArray, List.map_cons, List.map_nil]); first | rfl) ?_; (with_reducible refine (proofmarklaw27_fit.calls k _ _ l0_0 _ _ l0_1 _ _ l0_2 _ _ l0_3 _ _ l0_4 a0_5 _ _ l0_6 _ _ l0_7 _ _ l0_8 _ _ l0_9 _ _ l0_10 _ _ l0_11 a0_12 t230 t233 t236 t239 t242 t245 t246 t249 t252 t255 _ ?side1 ?side2 ?side3 ?side4 ?side5 ?side6 ?side7 ?side8 ?side9 ?side10 ?side11 ?side12 ?side13 ?side14 ?side15 ?side16 ?side17 ?side18 ?side19 ?side20 ?side21 ?side22 A3.out).mono ?_); (case side1 => repeat (first | exact (Kd.C_below HR0_0.out HB.out))); (case side2 => exact HC0_0.out); (case side3 => repeat (first | exact (Kd.C_below HR0_1.out HB.out))); (case side4 => exact HC0_1.out); (case side5 => repeat (first | exact (Kd.C_below HR0_2.out HB.out))); (case side6 => exact HC0_2.out); (case side7 => repeat (first | exact (Kd.C_below HR0_3.out HB.out))); (case side8 => exact HC0_3.out); (case side9 => repeat (first | exact (Kd.C_below HR0_4.out HB.out))); (case side10 => exact HC0_4.out); (case side11 => repeat (first | exact (Kd.C_below HR0_6.out HB.out))); (case side12 => exact HC0_6.out); (case side13 => repeat (first | exact (Kd.C_below HR0_7.out HB.out))); (case side14 => exact HC0_7.out); (case side15 => repeat (first | exact (Kd.C_below HR0_8.out HB.out))); (case side16 => exact HC0_8.out); (case side17 => repeat (first | exact (Kd.C_below HR0_9.out HB.out))); (case side18 => exact HC0_9.out); (case side19 => repeat (first | exact (Kd.C_below HR0_10.out HB.out))); (case side20 => exact HC0_10.out); (case side21 => repeat (first | exact (Kd.C_below HR0_11.out HB.out))); (case side22 => exact HC0_11.out); rintro e w21 ⟨v231, v234, v237, v240, v243, v247, v250, v253, v256, rfl, ho0, ho1, ho2, ho3, ho4, ho5, ho6, ho7, ho8, hb⟩; refine ⟨_, rfl, ?_⟩; have n0_ := Aside0.mk (Kd.R_lower ho0 (below_size HB.out)); have n1_ := Aside0.mk (Kd.R_lower ho1 (below_size HB.out)); have n2_ := Aside0.mk (Kd.R_lower ho2 (below_size HB.out)); have n3_ := Aside0.mk (Kd.R_lower ho3 (below_size HB.out)); have n4_ := Aside0.mk (Kd.R_lower ho4 (below_size HB.out)); have n5_ := Aside0.mk (Kd.R_lower ho5 (below_size HB.out)); have n6_ := Aside0.mk (Kd.R_lower ho6 (below_size HB.out)); have n7_ := Aside0.mk (Kd.R_lower ho7 (below_size HB.out)); have n8_ := Aside0.mk (Kd.R_lower ho8 (below_size HB.out)); have n9_ := Aside0.mk (blk_below BK228.out hb); have n10_ := Aside0.mk (below_step HB.out hb); clear BK228; clear HB; have HO232 := n0_; have HO235 := n1_; have HO238 := n2_; have HO241 := n3_; have HO244 := n4_; have HO248 := n5_; have HO251 := n6_; have HO254 := n7_; have HO257 := n8_; have BK228 := n9_; have HB := n10_; clear n0_ n1_ n2_ n3_ n4_ n5_ n6_ n7_ n8_ n9_ n10_; (try clear hb); (try clear hb2); (try clear hk); (try clear hi); (try clear ho0); (try clear ho1); (try clear ho2); (try clear ho3); (try clear ho4); (try clear ho5); (try clear ho6); (try clear ho7); (try clear ho8)) | ((with_reducible refine gate_dst (N := 4) rfl ?_); refine box_event ?hg (N := 4) ?hd (cs := #[.slice none 0 0, .slice none 0 0, .slice none 0 0, .slice none 0 0, .slice none 0 0]) (t := 27) ?hr ?_; (case hd => rfl); (case hg => rfl); (case hr => first | (go_simp; done)); intro gb258 hg w22 hbox hb; have n0_ := Aside0.mk (Kd.R_below HO232.out hb); have n1_ := Aside0.mk (Kd.R_below HO235.out hb); have n2_ := Aside0.mk (Kd.R_below HO238.out hb); have n3_ := Aside0.mk (Kd.R_below HO241.out hb); have n4_ := Aside0.mk (Kd.R_below HO244.out hb); have n5_ := Aside0.mk (Kd.R_below HO248.out hb); have n6_ := Aside0.mk (Kd.R_below HO251.out hb); have n7_ := Aside0.mk (Kd.R_below HO254.out hb); have n8_ := Aside0.mk (Kd.R_below HO257.out hb); have n9_ := Aside0.mk (blk_below BK228.out hb); have n10_ := Aside0.mk (below_step HB.out hb); have n11_ := Aside0.mk (hbox); have n12_ := Aside0.mk ((by rw [hg]; exact (below_size HB.out) : w.heap.size ≤ gb258)); have n13_ := Aside0.mk ((by rw [hg]; exact (below_size HB.out) : w.heap.size ≤ gb258)); have n14_ := Aside0.mk ((by rw [hg]; exact Nat.ne_of_lt (blk_lt BK228.out) : gb228 ≠ gb258)); have n15_ := Aside0.mk ((by rw [hg]; exact Nat.ne_of_gt (blk_lt BK228.out) : gb258 ≠ gb228)); clear HO232; clear HO235; clear HO238; clear HO241; clear HO244; clear HO248; clear HO251; clear HO254; clear HO257; clear BK228; clear HB; have HO232 := n0_; have HO235 := n1_; have HO238 := n2_; have HO241 := n3_; have HO244 := n4_; have HO248 := n5_; have HO251 := n6_; have HO254 := n7_; have HO257 := n8_; have BK228 := n9_; have HB := n10_; have BK258 := n11_; have GW258 := n12_; have GE258 := n13_; have NB228_258 := n14_; have NB258_228 := n15_; clear n0_ n1_ n2_ n3_ n4_ n5_ n6_ n7_ n8_ n9_ n10_ n11_ n12_ n13_ n14_ n15_; clear hb hbox hg) | ((with_reducible refine gate_dst (N := 5) rfl ?_); refine box_event ?hg (N := 5) ?hd (cs := #[.int .i64 0, .slice none 0 0, .slice none 0 0, .slice none 0 0, .slice none 0 0]) (t := 35) ?hr ?_; (case hd => rfl); (case hg => rfl); (case hr => first | (go_simp; done)); intro gb259 hg w23 hbox hb; have n0_ := Aside0.mk (Kd.R_below HO232.out hb); have n1_ := Aside0.mk (Kd.R_below HO235.out hb); have n2_ := Aside0.mk (Kd.R_below HO238.out hb); have n3_ := Aside0.mk (Kd.R_below HO241.out hb); have n4_ := Aside0.mk (Kd.R_below HO244.out hb); have n5_ := Aside0.mk (Kd.R_below HO248.out hb); have n6_ := Aside0.mk (Kd.R_below HO251.out hb); have n7_ := Aside0.mk (Kd.R_below HO254.out hb); have n8_ := Aside0.mk (Kd.R_below HO257.out hb); have n9_ := Aside0.mk (blk_below BK228.out hb); have n10_ := Aside0.mk (blk_below BK258.out hb); have n11_ := Aside0.mk (below_step HB.out hb); have n12_ := Aside0.mk (hbox); have n13_ := Aside0.mk ((by rw [hg]; exact (below_size HB.out) : w.heap.size ≤ gb259)); have n14_ := Aside0.mk ((by rw [hg]; exact (below_size HB.out) : w.heap.size ≤ gb259)); have n15_ := Aside0.mk ((by rw [hg]; exact Nat.ne_of_lt (blk_lt BK228.out) : gb228 ≠ gb259)); have n16_ := Aside0.mk ((by rw [hg]; exact Nat.ne_of_gt (blk_lt BK228.out) : gb259 ≠ gb228)); have n17_ := Aside0.mk ((by rw [hg]; exact Nat.ne_of_lt (blk_lt BK258.out) : gb258 ≠ gb259)); have n18_ := Aside0.mk ((by rw [hg]; exact Nat.ne_of_gt (blk_lt BK258.out) : gb259 ≠ gb258)); clear HO232; clear HO235; clear HO238; clear HO241; clear HO244; clear HO248; clear HO251; clear HO254; clear HO257; clear BK228; clear BK258; clear HB; have HO232 := n0_; have HO235 := n1_; have HO238 := n2_; have HO241 := n3_; have HO244 := n4_; have HO248 := n5_; have HO251 := n6_; have HO254 := n7_; have HO257 := n8_; have BK228 := n9_; have BK258 := n10_; have HB := n11_; have BK259 := n12_; have GW259 := n13_; have GE259 := n14_; have NB228_259 := n15_; have NB259_228 := n16_; have NB258_259 := n17_; have NB259_258 := n18_; clear n0_ n1_ n2_ n3_ n4_ n5_ n6_ n7_ n8_ n9_ n10_ n11_ n12_ n13_ n14_ n15_ n16_ n17_ n18_; clear hb hbox hg; obtain ⟨Ao24, co24, eo24⟩ := Kd.R_slice HO232.out; subst eo24; have hnb25 := NB258_228.out; have hnc25 := NB228_258.out; have hnb26 := NB258_259.out; have hnc26 := NB259_258.out; have hcz27_0 : w23.cell? ⟨gb258, 0, none⟩ = some (.slice none 0 0) := (blk_cell BK258.out 0).trans rfl; have hcz27_1 : w23.cell? ⟨gb258, 1, none⟩ = some (.slice none 0 0) := (blk_cell BK258.out 1).trans rfl; have hcz27_2 : w23.cell? ⟨gb258, 2, none⟩ = some (.slice none 0 0) := (blk_cell BK258.out 2).trans rfl; have hcz27_3 : w23.cell? ⟨gb258, 3, none⟩ = some (.slice none 0 0) := (blk_cell BK258.out 3).trans rfl; have hcz27_4 : w23.cell? ⟨gb258, 4, none⟩ = some (.slice none 0 0) := (blk_cell BK258.out 4).trans rfl; have hfz27_0 := blk_frozen BK258.out 0; have hfz27_1 := blk_frozen BK258.out 1; have hfz27_2 := blk_frozen BK258.out 2; have hfz27_3 := blk_frozen BK258.out 3; have hfz27_4 := blk_frozen BK258.out 4; obtain ⟨Ao28, co28, eo28⟩ := Kd.R_slice HO235.out; subst eo28; obtain ⟨Ao29, co29, eo29⟩ := Kd.R_slice HO238.out; subst eo29; obtain ⟨Ao30, co30, eo30⟩ := Kd.R_slice HO241.out; subst eo30; obtain ⟨Ao31, co31, eo31⟩ := Kd.R_slice HO244.out; subst eo31; have hnb32 := NB259_228.out; have hnc32 := NB228_259.out; have hcz33_0 : w23.cell? ⟨gb259, 0, none⟩ = some (.int .i64 0) := (blk_cell BK259.out 0).trans rfl; have hcz33_1 : w23.cell? ⟨gb259, 1, none⟩ = some (.slice none 0 0) := (blk_cell BK259.out 1).trans rfl; have hcz33_2 : w23.cell? ⟨gb259, 2, none⟩ = some (.slice none 0 0) := (blk_cell BK259.out 2).trans rfl; have hcz33_3 : w23.cell? ⟨gb259, 3, none⟩ = some (.slice none 0 0) := (blk_cell BK259.out 3).trans rfl; have hcz33_4 : w23.cell? ⟨gb259, 4, none⟩ = some (.slice none 0 0) := (blk_cell BK259.out 4).trans rfl; have hfz33_0 := blk_frozen BK259.out 0; have hfz33_1 := blk_frozen BK259.out 1; have hfz33_2 := blk_frozen BK259.out 2; have hfz33_3 := blk_frozen BK259.out 3; have hfz33_4 := blk_frozen BK259.out 4; obtain ⟨Ao34, co34, eo34⟩ := Kd.R_slice HO248.out; subst eo34; obtain ⟨Ao35, co35, eo35⟩ := Kd.R_slice HO251.out; subst eo35; obtain ⟨Ao36, co36, eo36⟩ := Kd.R_slice HO254.out; subst eo36; obtain ⟨Ao37, co37, eo37⟩ := Kd.R_slice HO257.out; subst eo37; have hcz38_0 : w23.cell? ⟨gb228, 0, none⟩ = some (.slice A0_0 l0_0.length c0_0) := (blk_cell BK228.out 0).trans rfl; have hcz38_1 : w23.cell? ⟨gb228, 1, none⟩ = some (.slice A0_1 l0_1.length c0_1) := (blk_cell BK228.out 1).trans rfl; have hcz38_2 : w23.cell? ⟨gb228, 2, none⟩ = some (.slice A0_2 l0_2.length c0_2) := (blk_cell BK228.out 2).trans rfl; have hcz38_3 : w23.cell? ⟨gb228, 3, none⟩ = some (.slice A0_3 l0_3.length c0_3) := (blk_cell BK228.out 3).trans rfl; have hcz38_4 : w23.cell? ⟨gb228, 4, none⟩ = some (.slice A0_4 l0_4.length c0_4) := (blk_cell BK228.out 4).trans rfl; have hcz38_5 : w23.cell? ⟨gb228, 5, none⟩ = some (.int .i64 a0_5) := (blk_cell BK228.out 5).trans rfl; have hcz38_6 : w23.cell? ⟨gb228, 6, none⟩ = some (.slice A0_6 l0_6.length c0_6) := (blk_cell BK228.out 6).trans rfl; have hcz38_7 : w23.cell? ⟨gb228, 7, none⟩ = some (.slice A0_7 l0_7.length c0_7) := (blk_cell BK228.out 7).trans rfl; have hcz38_8 : w23.cell? ⟨gb228, 8, none⟩ = some (.slice A0_8 l0_8.length c0_8) := (blk_cell BK228.out 8).trans rfl; have hcz38_9 : w23.cell? ⟨gb228, 9, none⟩ = some (.slice A0_9 l0_9.length c0_9) := (blk_cell BK228.out 9).trans rfl; have hcz38_10 : w23.cell? ⟨gb228, 10, none⟩ = some (.slice A0_10 l0_10.length c0_10) := (blk_cell BK228.out 10).trans rfl; have hcz38_11 : w23.cell? ⟨gb228, 11, none⟩ = some (.slice A0_11 l0_11.length c0_11) := (blk_cell BK228.out 11).trans rfl; have hcz38_12 : w23.cell? ⟨gb228, 12, none⟩ = some (.string a0_12) := (blk_cell BK228.out 12).trans rfl; have hfz38_0 := blk_frozen BK228.out 0; have hfz38_1 := blk_frozen BK228.out 1; have hfz38_2 := blk_frozen BK228.out 2; have hfz38_3 := blk_frozen BK228.out 3; have hfz38_4 := blk_frozen BK228.out 4; have hfz38_5 := blk_frozen BK228.out 5; have hfz38_6 := blk_frozen BK228.out 6; have hfz38_7 := blk_frozen BK228.out 7; have hfz38_8 := blk_frozen BK228.out 8; have hfz38_9 := blk_frozen BK228.out 9; have hfz38_10 := blk_frozen BK228.out 10; have hfz38_11 := blk_frozen BK228.out 11; have hfz38_12 := blk_frozen BK228.out 12; obtain ⟨i039, hi039, _, hsz39, _⟩ := info_parts info3; obtain ⟨hcut39, hA39, hC39⟩ := print_take_of (P := Tryz.prog) (Value.int .i64) 0 37 3 .i64 Tryz.underlying37 hi039 hsz39 A0_11 c0_11 l0_11 (ji4) (of_decide_eq_true (by first | (with_reducible assumption))) (of_decide_eq_true (by first | (with_reducible assumption))) HC0_11.out; have HR260 := Aside0.mk (Kd.C_of_reads (h1 := fun _ => rfl) (hA39 _ (Kd.reads_of_C HR0_11.out))); have HC260 := Aside0.mk hC39; clear hA39 hC39 hi039 hsz39) | ((with_reducible refine gate_callee (f := 14) rfl ?_); refine goesL_ (some 36) rfl rfl Tryz.func14 (by kernel_rfl) rfl #[.agg #[.slice Ao24 t230.length co24, .slice Ao28 t233.length co28, .slice Ao29 t236.length co29, .slice Ao30 t239.length co30, .slice Ao31 t242.length co31], .agg #[.int .i64 t245, .slice Ao34 t246.length co34, .slice Ao35 t249.length co35, .slice Ao36 t252.length co36, .slice Ao37 t255.length co37], .string (a0_12.extract 0 ((ji7) : Int).toNat)] rfl (by (try simp only [List.map_toArray, List.map_cons, List.map_nil]); first | rfl) ?_; (with_reducible refine (lift_Lits.calls _ _ t230 _ _ t233 _ _ t236 _ _ t239 _ _ t242 t245 _ _ t246 _ _ t249 _ _ t252 _ _ t255 (a0_12.extract 0 ((ji7) : Int).toNat) t261 t264 _ (by first | (refine tab_below HG.out ?_; repeat (first | (with_reducible first | exact HB.out | refine below_set ?_ GE258.out | refine below_set ?_ GE259.out)))) ?side1 ?side2 ?side3 ?side4 ?side5 ?side6 ?side7 ?side8 ?side9 ?side10 ?side11 ?side12 ?side13 ?side14 ?side15 ?side16 ?side17 ?side18 A10.out).mono ?_); (case side1 => refine (Kd.R_reads' (e := 125) (base := w.heap.size) (ok := fun k_ => True) (n := t230.length) (c := co24) ?_).2.2; exact (by exact (Kd.R_mono (Kd.R_mono (Kd.R_far (p := ⟨gb259, 4, none⟩) (Kd.R_far (p := ⟨gb259, 3, none⟩) (Kd.R_far (p := ⟨gb259, 2, none⟩) (Kd.R_far (p := ⟨gb259, 1, none⟩) (Kd.R_far (p := ⟨gb259, 0, none⟩) (Kd.R_far (p := ⟨gb258, 4, none⟩) (Kd.R_far (p := ⟨gb258, 3, none⟩) (Kd.R_far (p := ⟨gb258, 2, none⟩) (Kd.R_far (p := ⟨gb258, 1, none⟩) (Kd.R_far (p := ⟨gb258, 0, none⟩) (Kd.R_types (Kd.R_types HO232.out BK258.out (by decide)) BK259.out (by decide)) (fun _ hk => hk.1.2) (.slice Ao24 t230.length co24)) (fun _ hk => hk.1.2) (.slice Ao28 t233.length co28)) (fun _ hk => hk.1.2) (.slice Ao29 t236.length co29)) (fun _ hk => hk.1.2) (.slice Ao30 t239.length co30)) (fun _ hk => hk.1.2) (.slice Ao31 t242.length co31)) (fun _ hk => hk.2) (.int .i64 t245)) (fun _ hk => hk.2) (.slice Ao34 t246.length co34)) (fun _ hk => hk.2) (.slice Ao35 t249.length co35)) (fun _ hk => hk.2) (.slice Ao36 t252.length co36)) (fun _ hk => hk.2) (.slice Ao37 t255.length co37)) (fun _ h_ => h_.1)) (fun _ h_ => h_.1)))); (case side2 => exact (Kd.R_reads' HO232.out).2.1); (case side3 => refine (Kd.R_reads' (e := 72) (base := w.heap.size) (ok := fun k_ => some k_ ≠ (.slice Ao31 t242.length co31 : Value).ownBlock) (n := t233.length) (c := co28) ?_).2.2; exact (by exact (Kd.R_mono (Kd.R_mono (Kd.R_far (p := ⟨gb259, 4, none⟩) (Kd.R_far (p := ⟨gb259, 3, none⟩) (Kd.R_far (p := ⟨gb259, 2, none⟩) (Kd.R_far (p := ⟨gb259, 1, none⟩) (Kd.R_far (p := ⟨gb259, 0, none⟩) (Kd.R_far (p := ⟨gb258, 4, none⟩) (Kd.R_far (p := ⟨gb258, 3, none⟩) (Kd.R_far (p := ⟨gb258, 2, none⟩) (Kd.R_far (p := ⟨gb258, 1, none⟩) (Kd.R_far (p := ⟨gb258, 0, none⟩) (Kd.R_types (Kd.R_types HO235.out BK258.out (by decide)) BK259.out (by decide)) (fun _ hk => hk.1.2) (.slice Ao24 t230.length co24)) (fun _ hk => hk.1.2) (.slice Ao28 t233.length co28)) (fun _ hk => hk.1.2) (.slice Ao29 t236.length co29)) (fun _ hk => hk.1.2) (.slice Ao30 t239.length co30)) (fun _ hk => hk.1.2) (.slice Ao31 t242.length co31)) (fun _ hk => hk.2) (.int .i64 t245)) (fun _ hk => hk.2) (.slice Ao34 t246.length co34)) (fun _ hk => hk.2) (.slice Ao35 t249.length co35)) (fun _ hk => hk.2) (.slice Ao36 t252.length co36)) (fun _ hk => hk.2) (.slice Ao37 t255.length co37)) (fun _ h_ => h_.1)) (fun _ h_ => h_.1)))); (case side4 => exact (Kd.R_reads' HO235.out).2.1); (case side5 => refine (Kd.R_reads' (e := 114) (base := w.heap.size) (ok := fun k_ => True) (n := t236.length) (c := co29) ?_).2.2; exact (by exact (Kd.R_mono (Kd.R_mono (Kd.R_far (p := ⟨gb259, 4, none⟩) (Kd.R_far (p := ⟨gb259, 3, none⟩) (Kd.R_far (p := ⟨gb259, 2, none⟩) (Kd.R_far (p := ⟨gb259, 1, none⟩) (Kd.R_far (p := ⟨gb259, 0, none⟩) (Kd.R_far (p := ⟨gb258, 4, none⟩) (Kd.R_far (p := ⟨gb258, 3, none⟩) (Kd.R_far (p := ⟨gb258, 2, none⟩) (Kd.R_far (p := ⟨gb258, 1, none⟩) (Kd.R_far (p := ⟨gb258, 0, none⟩) (Kd.R_types (Kd.R_types HO238.out BK258.out (by decide)) BK259.out (by decide)) (fun _ hk => hk.1.2) (.slice Ao24 t230.length co24)) (fun _ hk => hk.1.2) (.slice Ao28 t233.length co28)) (fun _ hk => hk.1.2) (.slice Ao29 t236.length co29)) (fun _ hk => hk.1.2) (.slice Ao30 t239.length co30)) (fun _ hk => hk.1.2) (.slice Ao31 t242.length co31)) (fun _ hk => hk.2) (.int .i64 t245)) (fun _ hk => hk.2) (.slice Ao34 t246.length co34)) (fun _ hk => hk.2) (.slice Ao35 t249.length co35)) (fun _ hk => hk.2) (.slice Ao36 t252.length co36)) (fun _ hk => hk.2) (.slice Ao37 t255.length co37)) (fun _ h_ => h_.1)) (fun _ h_ => h_.1)))); (case side6 => exact (Kd.R_reads' HO238.out).2.1); (case side7 => refine (Kd.R_reads' (e := 105) (base := w.heap.size) (ok := fun k_ => True) (n := t239.length) (c := co30) ?_).2.2; exact (by exact (Kd.R_mono (Kd.R_mono (Kd.R_far (p := ⟨gb259, 4, none⟩) (Kd.R_far (p := ⟨gb259, 3, none⟩) (Kd.R_far (p := ⟨gb259, 2, none⟩) (Kd.R_far (p := ⟨gb259, 1, none⟩) (Kd.R_far (p := ⟨gb259, 0, none⟩) (Kd.R_far (p := ⟨gb258, 4, none⟩) (Kd.R_far (p := ⟨gb258, 3, none⟩) (Kd.R_far (p := ⟨gb258, 2, none⟩) (Kd.R_far (p := ⟨gb258, 1, none⟩) (Kd.R_far (p := ⟨gb258, 0, none⟩) (Kd.R_types (Kd.R_types HO241.out BK258.out (by decide)) BK259.out (by decide)) (fun _ hk => hk.1.2) (.slice Ao24 t230.length co24)) (fun _ hk => hk.1.2) (.slice Ao28 t233.length co28)) (fun _ hk => hk.1.2) (.slice Ao29 t236.length co29)) (fun _ hk => hk.1.2) (.slice Ao30 t239.length co30)) (fun _ hk => hk.1.2) (.slice Ao31 t242.length co31)) (fun _ hk => hk.2) (.int .i64 t245)) (fun _ hk => hk.2) (.slice Ao34 t246.length co34)) (fun _ hk => hk.2) (.slice Ao35 t249.length co35)) (fun _ hk => hk.2) (.slice Ao36 t252.length co36)) (fun _ hk => hk.2) (.slice Ao37 t255.length co37)) (fun _ h_ => h_.1)) (fun _ h_ => h_.1)))); (case side8 => exact (Kd.R_reads' HO241.out).2.1); (case side9 => refine (Kd.R_reads' (e := 72) (base := w.heap.size) (ok := fun k_ => some k_ ≠ (.slice Ao28 t233.length co28 : Value).ownBlock) (n := t242.length) (c := co31) ?_).2.2; exact (by exact (Kd.R_mono (Kd.R_mono (Kd.R_far (p := ⟨gb259, 4, none⟩) (Kd.R_far (p := ⟨gb259, 3, none⟩) (Kd.R_far (p := ⟨gb259, 2, none⟩) (Kd.R_far (p := ⟨gb259, 1, none⟩) (Kd.R_far (p := ⟨gb259, 0, none⟩) (Kd.R_far (p := ⟨gb258, 4, none⟩) (Kd.R_far (p := ⟨gb258, 3, none⟩) (Kd.R_far (p := ⟨gb258, 2, none⟩) (Kd.R_far (p := ⟨gb258, 1, none⟩) (Kd.R_far (p := ⟨gb258, 0, none⟩) (Kd.R_types (Kd.R_types HO244.out BK258.out (by decide)) BK259.out (by decide)) (fun _ hk => hk.1.2) (.slice Ao24 t230.length co24)) (fun _ hk => hk.1.2) (.slice Ao28 t233.length co28)) (fun _ hk => hk.1.2) (.slice Ao29 t236.length co29)) (fun _ hk => hk.1.2) (.slice Ao30 t239.length co30)) (fun _ hk => hk.1.2) (.slice Ao31 t242.length co31)) (fun _ hk => hk.2) (.int .i64 t245)) (fun _ hk => hk.2) (.slice Ao34 t246.length co34)) (fun _ hk => hk.2) (.slice Ao35 t249.length co35)) (fun _ hk => hk.2) (.slice Ao36 t252.length co36)) (fun _ hk => hk.2) (.slice Ao37 t255.length co37)) (fun _ h_ => h_.1)) (fun _ h_ => h_.1)))); (case side10 => exact (Kd.R_reads' HO244.out).2.1); (case side11 => refine (Kd.R_reads' (e := 199) (base := w.heap.size) (ok := fun k_ => True) (n := t246.length) (c := co34) ?_).2.2; exact (by exact (Kd.R_mono (Kd.R_mono (Kd.R_far (p := ⟨gb259, 4, none⟩) (Kd.R_far (p := ⟨gb259, 3, none⟩) (Kd.R_far (p := ⟨gb259, 2, none⟩) (Kd.R_far (p := ⟨gb259, 1, none⟩) (Kd.R_far (p := ⟨gb259, 0, none⟩) (Kd.R_far (p := ⟨gb258, 4, none⟩) (Kd.R_far (p := ⟨gb258, 3, none⟩) (Kd.R_far (p := ⟨gb258, 2, none⟩) (Kd.R_far (p := ⟨gb258, 1, none⟩) (Kd.R_far (p := ⟨gb258, 0, none⟩) (Kd.R_types (Kd.R_types HO248.out BK258.out (by decide)) BK259.out (by decide)) (fun _ hk => hk.1.2) (.slice Ao24 t230.length co24)) (fun _ hk => hk.1.2) (.slice Ao28 t233.length co28)) (fun _ hk => hk.1.2) (.slice Ao29 t236.length co29)) (fun _ hk => hk.1.2) (.slice Ao30 t239.length co30)) (fun _ hk => hk.1.2) (.slice Ao31 t242.length co31)) (fun _ hk => hk.2) (.int .i64 t245)) (fun _ hk => hk.2) (.slice Ao34 t246.length co34)) (fun _ hk => hk.2) (.slice Ao35 t249.length co35)) (fun _ hk => hk.2) (.slice Ao36 t252.length co36)) (fun _ hk => hk.2) (.slice Ao37 t255.length co37)) (fun _ h_ => h_.1)) (fun _ h_ => h_.1)))); (case side12 => exact (Kd.R_reads' HO248.out).2.1); (case side13 => refine (Kd.R_reads' (e := 200) (base := w.heap.size) (ok := fun k_ => True) (n := t249.length) (c := co35) ?_).2.2; exact (by exact (Kd.R_mono (Kd.R_mono (Kd.R_far (p := ⟨gb259, 4, none⟩) (Kd.R_far (p := ⟨gb259, 3, none⟩) (Kd.R_far (p := ⟨gb259, 2, none⟩) (Kd.R_far (p := ⟨gb259, 1, none⟩) (Kd.R_far (p := ⟨gb259, 0, none⟩) (Kd.R_far (p := ⟨gb258, 4, none⟩) (Kd.R_far (p := ⟨gb258, 3, none⟩) (Kd.R_far (p := ⟨gb258, 2, none⟩) (Kd.R_far (p := ⟨gb258, 1, none⟩) (Kd.R_far (p := ⟨gb258, 0, none⟩) (Kd.R_types (Kd.R_types HO251.out BK258.out (by decide)) BK259.out (by decide)) (fun _ hk => hk.1.2) (.slice Ao24 t230.length co24)) (fun _ hk => hk.1.2) (.slice Ao28 t233.length co28)) (fun _ hk => hk.1.2) (.slice Ao29 t236.length co29)) (fun _ hk => hk.1.2) (.slice Ao30 t239.length co30)) (fun _ hk => hk.1.2) (.slice Ao31 t242.length co31)) (fun _ hk => hk.2) (.int .i64 t245)) (fun _ hk => hk.2) (.slice Ao34 t246.length co34)) (fun _ hk => hk.2) (.slice Ao35 t249.length co35)) (fun _ hk => hk.2) (.slice Ao36 t252.length co36)) (fun _ hk => hk.2) (.slice Ao37 t255.length co37)) (fun _ h_ => h_.1)) (fun _ h_ => h_.1)))); (case side14 => exact (Kd.R_reads' HO251.out).2.1); (case side15 => refine (Kd.R_reads' (e := 94) (base := w.heap.size) (ok := fun k_ => True) (n := t252.length) (c := co36) ?_).2.2; exact (by exact (Kd.R_mono (Kd.R_mono (Kd.R_far (p := ⟨gb259, 4, none⟩) (Kd.R_far (p := ⟨gb259, 3, none⟩) (Kd.R_far (p := ⟨gb259, 2, none⟩) (Kd.R_far (p := ⟨gb259, 1, none⟩) (Kd.R_far (p := ⟨gb259, 0, none⟩) (Kd.R_far (p := ⟨gb258, 4, none⟩) (Kd.R_far (p := ⟨gb258, 3, none⟩) (Kd.R_far (p := ⟨gb258, 2, none⟩) (Kd.R_far (p := ⟨gb258, 1, none⟩) (Kd.R_far (p := ⟨gb258, 0, none⟩) (Kd.R_types (Kd.R_types HO254.out BK258.out (by decide)) BK259.out (by decide)) (fun _ hk => hk.1.2) (.slice Ao24 t230.length co24)) (fun _ hk => hk.1.2) (.slice Ao28 t233.length co28)) (fun _ hk => hk.1.2) (.slice Ao29 t236.length co29)) (fun _ hk => hk.1.2) (.slice Ao30 t239.length co30)) (fun _ hk => hk.1.2) (.slice Ao31 t242.length co31)) (fun _ hk => hk.2) (.int .i64 t245)) (fun _ hk => hk.2) (.slice Ao34 t246.length co34)) (fun _ hk => hk.2) (.slice Ao35 t249.length co35)) (fun _ hk => hk.2) (.slice Ao36 t252.length co36)) (fun _ hk => hk.2) (.slice Ao37 t255.length co37)) (fun _ h_ => h_.1)) (fun _ h_ => h_.1)))); (case side16 => exact (Kd.R_reads' HO254.out).2.1); (case side17 => refine (Kd.R_reads' (e := 202) (base := w.heap.size) (ok := fun k_ => True) (n := t255.length) (c := co37) ?_).2.2; exact (by exact (Kd.R_mono (Kd.R_mono (Kd.R_far (p := ⟨gb259, 4, none⟩) (Kd.R_far (p := ⟨gb259, 3, none⟩) (Kd.R_far (p := ⟨gb259, 2, none⟩) (Kd.R_far (p := ⟨gb259, 1, none⟩) (Kd.R_far (p := ⟨gb259, 0, none⟩) (Kd.R_far (p := ⟨gb258, 4, none⟩) (Kd.R_far (p := ⟨gb258, 3, none⟩) (Kd.R_far (p := ⟨gb258, 2, none⟩) (Kd.R_far (p := ⟨gb258, 1, none⟩) (Kd.R_far (p := ⟨gb258, 0, none⟩) (Kd.R_types (Kd.R_types HO257.out BK258.out (by decide)) BK259.out (by decide)) (fun _ hk => hk.1.2) (.slice Ao24 t230.length co24)) (fun _ hk => hk.1.2) (.slice Ao28 t233.length co28)) (fun _ hk => hk.1.2) (.slice Ao29 t236.length co29)) (fun _ hk => hk.1.2) (.slice Ao30 t239.length co30)) (fun _ hk => hk.1.2) (.slice Ao31 t242.length co31)) (fun _ hk => hk.2) (.int .i64 t245)) (fun _ hk => hk.2) (.slice Ao34 t246.length co34)) (fun _ hk => hk.2) (.slice Ao35 t249.length co35)) (fun _ hk => hk.2) (.slice Ao36 t252.length co36)) (fun _ hk => hk.2) (.slice Ao37 t255.length co37)) (fun _ h_ => h_.1)) (fun _ h_ => h_.1)))); (case side18 => exact (Kd.R_reads' HO257.out).2.1); rintro e w40 ⟨v262, rfl, ho0, hb⟩; refine ⟨_, rfl, ?_⟩; have n0_ := Aside0.mk (Kd.R_below (by exact (Kd.R_mono (Kd.R_mono (Kd.R_far (p := ⟨gb259, 4, none⟩) (Kd.R_far (p := ⟨gb259, 3, none⟩) (Kd.R_far (p := ⟨gb259, 2, none⟩) (Kd.R_far (p := ⟨gb259, 1, none⟩) (Kd.R_far (p := ⟨gb259, 0, none⟩) (Kd.R_far (p := ⟨gb258, 4, none⟩) (Kd.R_far (p := ⟨gb258, 3, none⟩) (Kd.R_far (p := ⟨gb258, 2, none⟩) (Kd.R_far (p := ⟨gb258, 1, none⟩) (Kd.R_far (p := ⟨gb258, 0, none⟩) (Kd.R_types (Kd.R_types HO232.out BK258.out (by decide)) BK259.out (by decide)) (fun _ hk => hk.1.2) (.slice Ao24 t230.length co24)) (fun _ hk => hk.1.2) (.slice Ao28 t233.length co28)) (fun _ hk => hk.1.2) (.slice Ao29 t236.length co29)) (fun _ hk => hk.1.2) (.slice Ao30 t239.length co30)) (fun _ hk => hk.1.2) (.slice Ao31 t242.length co31)) (fun _ hk => hk.2) (.int .i64 t245)) (fun _ hk => hk.2) (.slice Ao34 t246.length co34)) (fun _ hk => hk.2) (.slice Ao35 t249.length co35)) (fun _ hk => hk.2) (.slice Ao36 t252.length co36)) (fun _ hk => hk.2) (.slice Ao37 t255.length co37)) (fun _ h_ => h_.1)) (fun _ h_ => h_.1))) hb); have n1_ := Aside0.mk (Kd.R_below (by exact (Kd.R_mono (Kd.R_mono (Kd.R_far (p := ⟨gb259, 4, none⟩) (Kd.R_far (p := ⟨gb259, 3, none⟩) (Kd.R_far (p := ⟨gb259, 2, none⟩) (Kd.R_far (p := ⟨gb259, 1, none⟩) (Kd.R_far (p := ⟨gb259, 0, none⟩) (Kd.R_far (p := ⟨gb258, 4, none⟩) (Kd.R_far (p := ⟨gb258, 3, none⟩) (Kd.R_far (p := ⟨gb258, 2, none⟩) (Kd.R_far (p := ⟨gb258, 1, none⟩) (Kd.R_far (p := ⟨gb258, 0, none⟩) (Kd.R_types (Kd.R_types HO235.out BK258.out (by decide)) BK259.out (by decide)) (fun _ hk => hk.1.2) (.slice Ao24 t230.length co24)) (fun _ hk => hk.1.2) (.slice Ao28 t233.length co28)) (fun _ hk => hk.1.2) (.slice Ao29 t236.length co29)) (fun _ hk => hk.1.2) (.slice Ao30 t239.length co30)) (fun _ hk => hk.1.2) (.slice Ao31 t242.length co31)) (fun _ hk => hk.2) (.int .i64 t245)) (fun _ hk => hk.2) (.slice Ao34 t246.length co34)) (fun _ hk => hk.2) (.slice Ao35 t249.length co35)) (fun _ hk => hk.2) (.slice Ao36 t252.length co36)) (fun _ hk => hk.2) (.slice Ao37 t255.length co37)) (fun _ h_ => h_.1)) (fun _ h_ => h_.1))) hb); have n2_ := Aside0.mk (Kd.R_below (by exact (Kd.R_mono (Kd.R_mono (Kd.R_far (p := ⟨gb259, 4, none⟩) (Kd.R_far (p := ⟨gb259, 3, none⟩) (Kd.R_far (p := ⟨gb259, 2, none⟩) (Kd.R_far (p := ⟨gb259, 1, none⟩) (Kd.R_far (p := ⟨gb259, 0, none⟩) (Kd.R_far (p := ⟨gb258, 4, none⟩) (Kd.R_far (p := ⟨gb258, 3, none⟩) (Kd.R_far (p := ⟨gb258, 2, none⟩) (Kd.R_far (p := ⟨gb258, 1, none⟩) (Kd.R_far (p := ⟨gb258, 0, none⟩) (Kd.R_types (Kd.R_types HO238.out BK258.out (by decide)) BK259.out (by decide)) (fun _ hk => hk.1.2) (.slice Ao24 t230.length co24)) (fun _ hk => hk.1.2) (.slice Ao28 t233.length co28)) (fun _ hk => hk.1.2) (.slice Ao29 t236.length co29)) (fun _ hk => hk.1.2) (.slice Ao30 t239.length co30)) (fun _ hk => hk.1.2) (.slice Ao31 t242.length co31)) (fun _ hk => hk.2) (.int .i64 t245)) (fun _ hk => hk.2) (.slice Ao34 t246.length co34)) (fun _ hk => hk.2) (.slice Ao35 t249.length co35)) (fun _ hk => hk.2) (.slice Ao36 t252.length co36)) (fun _ hk => hk.2) (.slice Ao37 t255.length co37)) (fun _ h_ => h_.1)) (fun _ h_ => h_.1))) hb); have n3_ := Aside0.mk (Kd.R_below (by exact (Kd.R_mono (Kd.R_mono (Kd.R_far (p := ⟨gb259, 4, none⟩) (Kd.R_far (p := ⟨gb259, 3, none⟩) (Kd.R_far (p := ⟨gb259, 2, none⟩) (Kd.R_far (p := ⟨gb259, 1, none⟩) (Kd.R_far (p := ⟨gb259, 0, none⟩) (Kd.R_far (p := ⟨gb258, 4, none⟩) (Kd.R_far (p := ⟨gb258, 3, none⟩) (Kd.R_far (p := ⟨gb258, 2, none⟩) (Kd.R_far (p := ⟨gb258, 1, none⟩) (Kd.R_far (p := ⟨gb258, 0, none⟩) (Kd.R_types (Kd.R_types HO241.out BK258.out (by decide)) BK259.out (by decide)) (fun _ hk => hk.1.2) (.slice Ao24 t230.length co24)) (fun _ hk => hk.1.2) (.slice Ao28 t233.length co28)) (fun _ hk => hk.1.2) (.slice Ao29 t236.length co29)) (fun _ hk => hk.1.2) (.slice Ao30 t239.length co30)) (fun _ hk => hk.1.2) (.slice Ao31 t242.length co31)) (fun _ hk => hk.2) (.int .i64 t245)) (fun _ hk => hk.2) (.slice Ao34 t246.length co34)) (fun _ hk => hk.2) (.slice Ao35 t249.length co35)) (fun _ hk => hk.2) (.slice Ao36 t252.length co36)) (fun _ hk => hk.2) (.slice Ao37 t255.length co37)) (fun _ h_ => h_.1)) (fun _ h_ => h_.1))) hb); have n4_ := Aside0.mk (Kd.R_below (by exact (Kd.R_mono (Kd.R_mono (Kd.R_far (p := ⟨gb259, 4, none⟩) (Kd.R_far (p := ⟨gb259, 3, none⟩) (Kd.R_far (p := ⟨gb259, 2, none⟩) (Kd.R_far (p := ⟨gb259, 1, none⟩) (Kd.R_far (p := ⟨gb259, 0, none⟩) (Kd.R_far (p := ⟨gb258, 4, none⟩) (Kd.R_far (p := ⟨gb258, 3, none⟩) (Kd.R_far (p := ⟨gb258, 2, none⟩) (Kd.R_far (p := ⟨gb258, 1, none⟩) (Kd.R_far (p := ⟨gb258, 0, none⟩) (Kd.R_types (Kd.R_types HO244.out BK258.out (by decide)) BK259.out (by decide)) (fun _ hk => hk.1.2) (.slice Ao24 t230.length co24)) (fun _ hk => hk.1.2) (.slice Ao28 t233.length co28)) (fun _ hk => hk.1.2) (.slice Ao29 t236.length co29)) (fun _ hk => hk.1.2) (.slice Ao30 t239.length co30)) (fun _ hk => hk.1.2) (.slice Ao31 t242.length co31)) (fun _ hk => hk.2) (.int .i64 t245)) (fun _ hk => hk.2) (.slice Ao34 t246.length co34)) (fun _ hk => hk.2) (.slice Ao35 t249.length co35)) (fun _ hk => hk.2) (.slice Ao36 t252.length co36)) (fun _ hk => hk.2) (.slice Ao37 t255.length co37)) (fun _ h_ => h_.1)) (fun _ h_ => h_.1))) hb); have n5_ := Aside0.mk (Kd.R_below (by exact (Kd.R_mono (Kd.R_mono (Kd.R_far (p := ⟨gb259, 4, none⟩) (Kd.R_far (p := ⟨gb259, 3, none⟩) (Kd.R_far (p := ⟨gb259, 2, none⟩) (Kd.R_far (p := ⟨gb259, 1, none⟩) (Kd.R_far (p := ⟨gb259, 0, none⟩) (Kd.R_far (p := ⟨gb258, 4, none⟩) (Kd.R_far (p := ⟨gb258, 3, none⟩) (Kd.R_far (p := ⟨gb258, 2, none⟩) (Kd.R_far (p := ⟨gb258, 1, none⟩) (Kd.R_far (p := ⟨gb258, 0, none⟩) (Kd.R_types (Kd.R_types HO248.out BK258.out (by decide)) BK259.out (by decide)) (fun _ hk => hk.1.2) (.slice Ao24 t230.length co24)) (fun _ hk => hk.1.2) (.slice Ao28 t233.length co28)) (fun _ hk => hk.1.2) (.slice Ao29 t236.length co29)) (fun _ hk => hk.1.2) (.slice Ao30 t239.length co30)) (fun _ hk => hk.1.2) (.slice Ao31 t242.length co31)) (fun _ hk => hk.2) (.int .i64 t245)) (fun _ hk => hk.2) (.slice Ao34 t246.length co34)) (fun _ hk => hk.2) (.slice Ao35 t249.length co35)) (fun _ hk => hk.2) (.slice Ao36 t252.length co36)) (fun _ hk => hk.2) (.slice Ao37 t255.length co37)) (fun _ h_ => h_.1)) (fun _ h_ => h_.1))) hb); have n6_ := Aside0.mk (Kd.R_below (by exact (Kd.R_mono (Kd.R_mono (Kd.R_far (p := ⟨gb259, 4, none⟩) (Kd.R_far (p := ⟨gb259, 3, none⟩) (Kd.R_far (p := ⟨gb259, 2, none⟩) (Kd.R_far (p := ⟨gb259, 1, none⟩) (Kd.R_far (p := ⟨gb259, 0, none⟩) (Kd.R_far (p := ⟨gb258, 4, none⟩) (Kd.R_far (p := ⟨gb258, 3, none⟩) (Kd.R_far (p := ⟨gb258, 2, none⟩) (Kd.R_far (p := ⟨gb258, 1, none⟩) (Kd.R_far (p := ⟨gb258, 0, none⟩) (Kd.R_types (Kd.R_types HO251.out BK258.out (by decide)) BK259.out (by decide)) (fun _ hk => hk.1.2) (.slice Ao24 t230.length co24)) (fun _ hk => hk.1.2) (.slice Ao28 t233.length co28)) (fun _ hk => hk.1.2) (.slice Ao29 t236.length co29)) (fun _ hk => hk.1.2) (.slice Ao30 t239.length co30)) (fun _ hk => hk.1.2) (.slice Ao31 t242.length co31)) (fun _ hk => hk.2) (.int .i64 t245)) (fun _ hk => hk.2) (.slice Ao34 t246.length co34)) (fun _ hk => hk.2) (.slice Ao35 t249.length co35)) (fun _ hk => hk.2) (.slice Ao36 t252.length co36)) (fun _ hk => hk.2) (.slice Ao37 t255.length co37)) (fun _ h_ => h_.1)) (fun _ h_ => h_.1))) hb); have n7_ := Aside0.mk (Kd.R_below (by exact (Kd.R_mono (Kd.R_mono (Kd.R_far (p := ⟨gb259, 4, none⟩) (Kd.R_far (p := ⟨gb259, 3, none⟩) (Kd.R_far (p := ⟨gb259, 2, none⟩) (Kd.R_far (p := ⟨gb259, 1, none⟩) (Kd.R_far (p := ⟨gb259, 0, none⟩) (Kd.R_far (p := ⟨gb258, 4, none⟩) (Kd.R_far (p := ⟨gb258, 3, none⟩) (Kd.R_far (p := ⟨gb258, 2, none⟩) (Kd.R_far (p := ⟨gb258, 1, none⟩) (Kd.R_far (p := ⟨gb258, 0, none⟩) (Kd.R_types (Kd.R_types HO254.out BK258.out (by decide)) BK259.out (by decide)) (fun _ hk => hk.1.2) (.slice Ao24 t230.length co24)) (fun _ hk => hk.1.2) (.slice Ao28 t233.length co28)) (fun _ hk => hk.1.2) (.slice Ao29 t236.length co29)) (fun _ hk => hk.1.2) (.slice Ao30 t239.length co30)) (fun _ hk => hk.1.2) (.slice Ao31 t242.length co31)) (fun _ hk => hk.2) (.int .i64 t245)) (fun _ hk => hk.2) (.slice Ao34 t246.length co34)) (fun _ hk => hk.2) (.slice Ao35 t249.length co35)) (fun _ hk => hk.2) (.slice Ao36 t252.length co36)) (fun _ hk => hk.2) (.slice Ao37 t255.length co37)) (fun _ h_ => h_.1)) (fun _ h_ => h_.1))) hb); have n8_ := Aside0.mk (Kd.R_below (by exact (Kd.R_mono (Kd.R_mono (Kd.R_far (p := ⟨gb259, 4, none⟩) (Kd.R_far (p := ⟨gb259, 3, none⟩) (Kd.R_far (p := ⟨gb259, 2, none⟩) (Kd.R_far (p := ⟨gb259, 1, none⟩) (Kd.R_far (p := ⟨gb259, 0, none⟩) (Kd.R_far (p := ⟨gb258, 4, none⟩) (Kd.R_far (p := ⟨gb258, 3, none⟩) (Kd.R_far (p := ⟨gb258, 2, none⟩) (Kd.R_far (p := ⟨gb258, 1, none⟩) (Kd.R_far (p := ⟨gb258, 0, none⟩) (Kd.R_types (Kd.R_types HO257.out BK258.out (by decide)) BK259.out (by decide)) (fun _ hk => hk.1.2) (.slice Ao24 t230.length co24)) (fun _ hk => hk.1.2) (.slice Ao28 t233.length co28)) (fun _ hk => hk.1.2) (.slice Ao29 t236.length co29)) (fun _ hk => hk.1.2) (.slice Ao30 t239.length co30)) (fun _ hk => hk.1.2) (.slice Ao31 t242.length co31)) (fun _ hk => hk.2) (.int .i64 t245)) (fun _ hk => hk.2) (.slice Ao34 t246.length co34)) (fun _ hk => hk.2) (.slice Ao35 t249.length co35)) (fun _ hk => hk.2) (.slice Ao36 t252.length co36)) (fun _ hk => hk.2) (.slice Ao37 t255.length co37)) (fun _ h_ => h_.1)) (fun _ h_ => h_.1))) hb); have n9_ := Aside0.mk (Kd.R_lower ho0 (below_size (by repeat (first | (with_reducible first | exact HB.out | refine below_set ?_ GE258.out | refine below_set ?_ GE259.out))))); have n10_ := Aside0.mk (blk_below (g := gb228) (o := .cells #[.slice A0_0 l0_0.length c0_0, .slice A0_1 l0_1.length c0_1, .slice A0_2 l0_2.length c0_2, .slice A0_3 l0_3.length c0_3, .slice A0_4 l0_4.length c0_4, .int .i64 a0_5, .slice A0_6 l0_6.length c0_6, .slice A0_7 l0_7.length c0_7, .slice A0_8 l0_8.length c0_8, .slice A0_9 l0_9.length c0_9, .slice A0_10 l0_10.length c0_10, .slice A0_11 l0_11.length c0_11, .string a0_12] 39 (0, 0)) (by refine blk_far ?_ NB228_259.out _; refine blk_far ?_ NB228_259.out _; refine blk_far ?_ NB228_259.out _; refine blk_far ?_ NB228_259.out _; refine blk_far ?_ NB228_259.out _; refine blk_far ?_ NB228_258.out _; refine blk_far ?_ NB228_258.out _; refine blk_far ?_ NB228_258.out _; refine blk_far ?_ NB228_258.out _; refine blk_far ?_ NB228_258.out _; exact BK228.out) hb); have n11_ := Aside0.mk (blk_below (g := gb258) (o := .cells #[.slice Ao24 t230.length co24, .slice Ao28 t233.length co28, .slice Ao29 t236.length co29, .slice Ao30 t239.length co30, .slice Ao31 t242.length co31] 27 (0, 0)) (by refine blk_far ?_ NB258_259.out _; refine blk_far ?_ NB258_259.out _; refine blk_far ?_ NB258_259.out _; refine blk_far ?_ NB258_259.out _; refine blk_far ?_ NB258_259.out _; refine blk_put (cs := #[.slice Ao24 t230.length co24, .slice Ao28 t233.length co28, .slice Ao29 t236.length co29, .slice Ao30 t239.length co30, .slice none 0 0]) ?_ 4 _ rfl; refine blk_put (cs := #[.slice Ao24 t230.length co24, .slice Ao28 t233.length co28, .slice Ao29 t236.length co29, .slice none 0 0, .slice none 0 0]) ?_ 3 _ rfl; refine blk_put (cs := #[.slice Ao24 t230.length co24, .slice Ao28 t233.length co28, .slice none 0 0, .slice none 0 0, .slice none 0 0]) ?_ 2 _ rfl; refine blk_put (cs := #[.slice Ao24 t230.length co24, .slice none 0 0, .slice none 0 0, .slice none 0 0, .slice none 0 0]) ?_ 1 _ rfl; refine blk_put (cs := #[.slice none 0 0, .slice none 0 0, .slice none 0 0, .slice none 0 0, .slice none 0 0]) ?_ 0 _ rfl; exact BK258.out) hb); have n12_ := Aside0.mk (blk_below (g := gb259) (o := .cells #[.int .i64 t245, .slice Ao34 t246.length co34, .slice Ao35 t249.length co35, .slice Ao36 t252.length co36, .slice Ao37 t255.length co37] 35 (0, 0)) (by refine blk_put (cs := #[.int .i64 t245, .slice Ao34 t246.length co34, .slice Ao35 t249.length co35, .slice Ao36 t252.length co36, .slice none 0 0]) ?_ 4 _ rfl; refine blk_put (cs := #[.int .i64 t245, .slice Ao34 t246.length co34, .slice Ao35 t249.length co35, .slice none 0 0, .slice none 0 0]) ?_ 3 _ rfl; refine blk_put (cs := #[.int .i64 t245, .slice Ao34 t246.length co34, .slice none 0 0, .slice none 0 0, .slice none 0 0]) ?_ 2 _ rfl; refine blk_put (cs := #[.int .i64 t245, .slice none 0 0, .slice none 0 0, .slice none 0 0, .slice none 0 0]) ?_ 1 _ rfl; refine blk_put (cs := #[.int .i64 0, .slice none 0 0, .slice none 0 0, .slice none 0 0, .slice none 0 0]) ?_ 0 _ rfl; refine blk_far ?_ NB259_258.out _; refine blk_far ?_ NB259_258.out _; refine blk_far ?_ NB259_258.out _; refine blk_far ?_ NB259_258.out _; refine blk_far ?_ NB259_258.out _; exact BK259.out) hb); have n13_ := Aside0.mk (below_step (by repeat (first | (with_reducible first | exact HB.out | refine below_set ?_ GE258.out | refine below_set ?_ GE259.out))) hb); clear HO232; clear HO235; clear HO238; clear HO241; clear HO244; clear HO248; clear HO251; clear HO254; clear HO257; clear BK228; clear BK258; clear BK259; clear HB; have HO232 := n0_; have HO235 := n1_; have HO238 := n2_; have HO241 := n3_; have HO244 := n4_; have HO248 := n5_; have HO251 := n6_; have HO254 := n7_; have HO257 := n8_; have HO263 := n9_; have BK228 := n10_; have BK258 := n11_; have BK259 := n12_; have HB := n13_; clear n0_ n1_ n2_ n3_ n4_ n5_ n6_ n7_ n8_ n9_ n10_ n11_ n12_ n13_; (try clear hb); (try clear hb2); (try clear hk); (try clear hi); (try clear ho0); have hcz41_0 : w40.cell? ⟨gb258, 0, none⟩ = some (.slice Ao24 t230.length co24) := (blk_cell BK258.out 0).trans rfl; have hcz41_1 : w40.cell? ⟨gb258, 1, none⟩ = some (.slice Ao28 t233.length co28) := (blk_cell BK258.out 1).trans rfl; have hcz41_2 : w40.cell? ⟨gb258, 2, none⟩ = some (.slice Ao29 t236.length co29) := (blk_cell BK258.out 2).trans rfl; have hcz41_3 : w40.cell? ⟨gb258, 3, none⟩ = some (.slice Ao30 t239.length co30) := (blk_cell BK258.out 3).trans rfl; have hcz41_4 : w40.cell? ⟨gb258, 4, none⟩ = some (.slice Ao31 t242.length co31) := (blk_cell BK258.out 4).trans rfl; have hfz41_0 := blk_frozen BK258.out 0; have hfz41_1 := blk_frozen BK258.out 1; have hfz41_2 := blk_frozen BK258.out 2; have hfz41_3 := blk_frozen BK258.out 3; have hfz41_4 := blk_frozen BK258.out 4; have hcz42_0 : w40.cell? ⟨gb259, 0, none⟩ = some (.int .i64 t245) := (blk_cell BK259.out 0).trans rfl; have hcz42_1 : w40.cell? ⟨gb259, 1, none⟩ = some (.slice Ao34 t246.length co34) := (blk_cell BK259.out 1).trans rfl; have hcz42_2 : w40.cell? ⟨gb259, 2, none⟩ = some (.slice Ao35 t249.length co35) := (blk_cell BK259.out 2).trans rfl; have hcz42_3 : w40.cell? ⟨gb259, 3, none⟩ = some (.slice Ao36 t252.length co36) := (blk_cell BK259.out 3).trans rfl; have hcz42_4 : w40.cell? ⟨gb259, 4, none⟩ = some (.slice Ao37 t255.length co37) := (blk_cell BK259.out 4).trans rfl; have hfz42_0 := blk_frozen BK259.out 0; have hfz42_1 := blk_frozen BK259.out 1; have hfz42_2 := blk_frozen BK259.out 2; have hfz42_3 := blk_frozen BK259.out 3; have hfz42_4 := blk_frozen BK259.out 4) | ((with_reducible refine gate_callee (f := 15) rfl ?_); refine goesL_ (some 43) rfl rfl Tryz.func15 (by kernel_rfl) rfl #[.agg #[.slice Ao24 t230.length co24, .slice Ao28 t233.length co28, .slice Ao29 t236.length co29, .slice Ao30 t239.length co30, .slice Ao31 t242.length co31], .agg #[.int .i64 t245, .slice Ao34 t246.length co34, .slice Ao35 t249.length co35, .slice Ao36 t252.length co36, .slice Ao37 t255.length co37], .string (a0_12.extract 0 ((ji7) : Int).toNat)] rfl (by (try simp only [List.map_toArray, List.map_cons, List.map_nil]); first | rfl) ?_; (with_reducible refine (proofmarkref27_Lits.calls k _ _ t230 _ _ t233 _ _ t236 _ _ t239 _ _ t242 t245 _ _ t246 _ _ t249 _ _ t252 _ _ t255 (a0_12.extract 0 ((ji7) : Int).toNat) t265 t268 _ ?side1 ?side2 ?side3 ?side4 ?side5 ?side6 ?side7 ?side8 ?side9 ?side10 ?side11 ?side12 ?side13 ?side14 ?side15 ?side16 ?side17 ?side18 A11.out).mono ?_); (case side1 => repeat (first | exact (Kd.R_reads' HO232.out).2.2)); (case side2 => exact (Kd.R_reads' HO232.out).2.1); (case side3 => repeat (first | exact (Kd.R_reads' HO235.out).2.2)); (case side4 => exact (Kd.R_reads' HO235.out).2.1); (case side5 => repeat (first | exact (Kd.R_reads' HO238.out).2.2)); (case side6 => exact (Kd.R_reads' HO238.out).2.1); (case side7 => repeat (first | exact (Kd.R_reads' HO241.out).2.2)); (case side8 => exact (Kd.R_reads' HO241.out).2.1); (case side9 => repeat (first | exact (Kd.R_reads' HO244.out).2.2)); (case side10 => exact (Kd.R_reads' HO244.out).2.1); (case side11 => repeat (first | exact (Kd.R_reads' HO248.out).2.2)); (case side12 => exact (Kd.R_reads' HO248.out).2.1); (case side13 => repeat (first | exact (Kd.R_reads' HO251.out).2.2)); (case side14 => exact (Kd.R_reads' HO251.out).2.1); (case side15 => repeat (first | exact (Kd.R_reads' HO254.out).2.2)); (case side16 => exact (Kd.R_reads' HO254.out).2.1); (case side17 => repeat (first | exact (Kd.R_reads' HO257.out).2.2)); (case side18 => exact (Kd.R_reads' HO257.out).2.1); rintro e w43 ⟨v266, rfl, ho0, hb⟩; refine ⟨_, rfl, ?_⟩; have n0_ := Aside0.mk (Kd.R_below HO232.out hb); have n1_ := Aside0.mk (Kd.R_below HO235.out hb); have n2_ := Aside0.mk (Kd.R_below HO238.out hb); have n3_ := Aside0.mk (Kd.R_below HO241.out hb); have n4_ := Aside0.mk (Kd.R_below HO244.out hb); have n5_ := Aside0.mk (Kd.R_below HO248.out hb); have n6_ := Aside0.mk (Kd.R_below HO251.out hb); have n7_ := Aside0.mk (Kd.R_below HO254.out hb); have n8_ := Aside0.mk (Kd.R_below HO257.out hb); have n9_ := Aside0.mk (Kd.R_elder' HO263.out (Kd.R_base ho0) hb); have n10_ := Aside0.mk (Kd.R_lower (Kd.R_new' ho0 (Kd.R_lt HO263.out)) (below_size HB.out)); have n11_ := Aside0.mk (blk_below BK228.out hb); have n12_ := Aside0.mk (blk_below BK258.out hb); have n13_ := Aside0.mk (blk_below BK259.out hb); have n14_ := Aside0.mk (below_step HB.out hb); clear HO232; clear HO235; clear HO238; clear HO241; clear HO244; clear HO248; clear HO251; clear HO254; clear HO257; clear HO263; clear BK228; clear BK258; clear BK259; clear HB; have HO232 := n0_; have HO235 := n1_; have HO238 := n2_; have HO241 := n3_; have HO244 := n4_; have HO248 := n5_; have HO251 := n6_; have HO254 := n7_; have HO257 := n8_; have HO263 := n9_; have HO267 := n10_; have BK228 := n11_; have BK258 := n12_; have BK259 := n13_; have HB := n14_; clear n0_ n1_ n2_ n3_ n4_ n5_ n6_ n7_ n8_ n9_ n10_ n11_ n12_ n13_ n14_; (try clear hb); (try clear hb2); (try clear hk); (try clear hi); (try clear ho0)))
                have n0_ := Aside0.mk (Kd.R_drew HO232.out)
                have n1_ := Aside0.mk (Kd.R_drew HO235.out)
                have n2_ := Aside0.mk (Kd.R_drew HO238.out)
                have n3_ := Aside0.mk (Kd.R_drew HO241.out)
                have n4_ := Aside0.mk (Kd.R_drew HO244.out)
                have n5_ := Aside0.mk (Kd.R_drew HO248.out)
                have n6_ := Aside0.mk (Kd.R_drew HO251.out)
                have n7_ := Aside0.mk (Kd.R_drew HO254.out)
                have n8_ := Aside0.mk (Kd.R_drew HO257.out)
                have n9_ := Aside0.mk (Kd.R_drew HO263.out)
                have n10_ := Aside0.mk (Kd.R_drew HO267.out)
                have n11_ := Aside0.mk (blk_drew BK228.out)
                have n12_ := Aside0.mk (blk_drew BK258.out)
                have n13_ := Aside0.mk (blk_drew BK259.out)
                have n14_ := Aside0.mk (below_drew1 HB.out)
                clear HO232
                clear HO235
                clear HO238
                clear HO241
                clear HO244
                clear HO248
                clear HO251
                clear HO254
                clear HO257
                clear HO263
                clear HO267
                clear BK228
                clear BK258
                clear BK259
                clear HB
                have HO232 := n0_
                have HO235 := n1_
                have HO238 := n2_
                have HO241 := n3_
                have HO244 := n4_
                have HO248 := n5_
                have HO251 := n6_
                have HO254 := n7_
                have HO257 := n8_
                have HO263 := n9_
                have HO267 := n10_
                have BK228 := n11_
                have BK258 := n12_
                have BK259 := n13_
                have HB := n14_
                clear n0_ n1_ n2_ n3_ n4_ n5_ n6_ n7_ n8_ n9_ n10_ n11_ n12_ n13_ n14_
                refine start_ (n := 23) (S := fun w' => w'.cell? ⟨gb258, 0, none⟩ = some (.slice Ao24 t230.length co24) ∧ w'.cell? ⟨gb258, 1, none⟩ = some (.slice Ao28 t233.length co28) ∧ w'.cell? ⟨gb258, 2, none⟩ = some (.slice Ao29 t236.length co29) ∧ w'.cell? ⟨gb258, 3, none⟩ = some (.slice Ao30 t239.length co30) ∧ w'.cell? ⟨gb258, 4, none⟩ = some (.slice Ao31 t242.length co31) ∧ w'.cell? ⟨gb259, 0, none⟩ = some (.int .i64 t245) ∧ w'.cell? ⟨gb259, 1, none⟩ = some (.slice Ao34 t246.length co34) ∧ w'.cell? ⟨gb259, 2, none⟩ = some (.slice Ao35 t249.length co35) ∧ w'.cell? ⟨gb259, 3, none⟩ = some (.slice Ao36 t252.length co36) ∧ w'.cell? ⟨gb259, 4, none⟩ = some (.slice Ao37 t255.length co37)) (ds := []) #[false, false, false, false, false, false, false, false, false, false, false, false, false, false, false, false, false, false, false, false, false, false, false] (by kernel_rfl) rfl rfl ⟨(blk_cell BK258.out 0).trans rfl, (blk_cell BK258.out 1).trans rfl, (blk_cell BK258.out 2).trans rfl, (blk_cell BK258.out 3).trans rfl, (blk_cell BK258.out 4).trans rfl, (blk_cell BK259.out 0).trans rfl, (blk_cell BK259.out 1).trans rfl, (blk_cell BK259.out 2).trans rfl, (blk_cell BK259.out 3).trans rfl, (blk_cell BK259.out 4).trans rfl⟩ (fun hHeld => ?_); refine with_tabW proofmarklaw27_LiftSays.tab7 proofmarklaw27_LiftSays.bits7 (fun HT_ HW_ => ?_)
                generalize w43.drew = w44 at HO232 HO235 HO238 HO241 HO244 HO248 HO251 HO254 HO257 HO263 HO267 BK228 BK258 BK259 HB hHeld ⊢
                refine pure_ (i := 0) (N := some 46) (v := ?_) (a' := ?_) #[true, false, false, false, false, false, false, false, false, false, false, false, false, false, false, false, false, false, false, false, false, false, false] rfl rfl (any_of HT_.out (by kernel_rfl)) (fun _ _ _ h => h) (Or.inl ⟨by rfl, ?_⟩) ?_ ?_
                rotate_left
                · intro w'
                  go_simp
                  with_reducible rfl
                rotate_left
                · simp only [Act.put, List.setIfInBounds_toArray, List.set_cons_zero, List.set_cons_succ, i64_w, i32_w]
                  rfl
                refine pure_ (i := 1) (N := some 47) (v := ?_) (a' := ?_) #[true, true, false, false, false, false, false, false, false, false, false, false, false, false, false, false, false, false, false, false, false, false, false] rfl rfl (any_of HT_.out (by kernel_rfl)) (fun _ _ _ h => h) (Or.inl ⟨by rfl, ?_⟩) ?_ ?_
                rotate_left
                · intro w'
                  go_simp
                  with_reducible rfl
                rotate_left
                · simp only [Act.put, List.setIfInBounds_toArray, List.set_cons_zero, List.set_cons_succ, i64_w, i32_w]
                  rfl
                refine pure_ (i := 4) (N := some 50) (v := ?_) (a' := ?_) #[true, true, false, false, true, false, false, false, false, false, false, false, false, false, false, false, false, false, false, false, false, false, false] rfl rfl (any_of HT_.out (by kernel_rfl)) (fun _ _ _ h => h) (Or.inl ⟨by rfl, ?_⟩) ?_ ?_
                rotate_left
                · intro w'
                  go_simp
                  with_reducible rfl
                rotate_left
                · simp only [Act.put, List.setIfInBounds_toArray, List.set_cons_zero, List.set_cons_succ, i64_w, i32_w]
                  rfl
                refine pure_ (i := 8) (N := some 54) (v := ?_) (a' := ?_) #[true, true, false, false, true, false, false, false, true, false, false, false, false, false, false, false, false, false, false, false, false, false, false] rfl rfl (any_of HT_.out (by kernel_rfl)) (fun _ _ _ h => h) (Or.inl ⟨by rfl, ?_⟩) ?_ ?_
                rotate_left
                · intro w'
                  go_simp
                  with_reducible rfl
                rotate_left
                · simp only [Act.put, List.setIfInBounds_toArray, List.set_cons_zero, List.set_cons_succ, i64_w, i32_w]
                  rfl
                refine take_ (i := 2) (N := some 48) (v := ?_) (a' := ?_) #[true, true, true, false, true, false, false, false, true, false, false, false, false, false, false, false, false, false, false, false, false, false, false] rfl rfl (take_ofW HT_.out HW_.out (by kernel_rfl)) (fun _ _ _ h => h) (Or.inl ⟨by rfl, ?_⟩) hHeld ?_ ?_
                rotate_left
                · rintro w' ⟨s0, s1, s2, s3, s4, s5, s6, s7, s8, s9⟩
                  go_simp
                  with_reducible rfl
                rotate_left
                · simp only [Act.put, List.setIfInBounds_toArray, List.set_cons_zero, List.set_cons_succ, i64_w, i32_w]
                  rfl
                refine take_ (i := 3) (N := some 49) (v := ?_) (a' := ?_) #[true, true, true, true, true, false, false, false, true, false, false, false, false, false, false, false, false, false, false, false, false, false, false] rfl rfl (take_ofW HT_.out HW_.out (by kernel_rfl)) (fun _ _ _ h => h) (Or.inl ⟨by rfl, ?_⟩) hHeld ?_ ?_
                rotate_left
                · rintro w' ⟨s0, s1, s2, s3, s4, s5, s6, s7, s8, s9⟩
                  go_simp
                  with_reducible rfl
                rotate_left
                · simp only [Act.put, List.setIfInBounds_toArray, List.set_cons_zero, List.set_cons_succ, i64_w, i32_w]
                  rfl
                refine take_ (i := 6) (N := some 52) (v := ?_) (a' := ?_) #[true, true, true, true, true, false, true, false, true, false, false, false, false, false, false, false, false, false, false, false, false, false, false] rfl rfl (take_ofW HT_.out HW_.out (by kernel_rfl)) (fun _ _ _ h => h) (Or.inl ⟨by rfl, ?_⟩) hHeld ?_ ?_
                rotate_left
                · rintro w' ⟨s0, s1, s2, s3, s4, s5, s6, s7, s8, s9⟩
                  go_simp
                  with_reducible rfl
                rotate_left
                · simp only [Act.put, List.setIfInBounds_toArray, List.set_cons_zero, List.set_cons_succ, i64_w, i32_w]
                  rfl
                refine take_ (i := 7) (N := some 53) (v := ?_) (a' := ?_) #[true, true, true, true, true, false, true, true, true, false, false, false, false, false, false, false, false, false, false, false, false, false, false] rfl rfl (take_ofW HT_.out HW_.out (by kernel_rfl)) (fun _ _ _ h => h) (Or.inl ⟨by rfl, ?_⟩) hHeld ?_ ?_
                rotate_left
                · rintro w' ⟨s0, s1, s2, s3, s4, s5, s6, s7, s8, s9⟩
                  go_simp
                  with_reducible rfl
                rotate_left
                · simp only [Act.put, List.setIfInBounds_toArray, List.set_cons_zero, List.set_cons_succ, i64_w, i32_w]
                  rfl
                refine one_ (i := 5) (N := some 51) #[true, true, true, true, true, true, true, true, true, false, false, false, false, false, false, false, false, false, false, false, false, false, false] rfl rfl (one_of HT_.out (by kernel_rfl)) (by decide) (fun K hK => ?_)
                refine goes_ Tryz.func16 (by kernel_rfl) rfl #[.agg #[.slice Ao24 t230.length co24, .slice Ao28 t233.length co28, .slice Ao29 t236.length co29, .slice Ao30 t239.length co30, .slice Ao31 t242.length co31], .agg #[.int .i64 t245, .slice Ao34 t246.length co34, .slice Ao35 t249.length co35, .slice Ao36 t252.length co36, .slice Ao37 t255.length co37], .slice A0_11 (l0_11.take ((ji4) : Int).toNat).length c0_11] (by rfl) rfl rfl (by (try simp only [List.map_toArray, List.map_cons, List.map_nil]); first | (rw [show (l0_11.take ((ji4) : Int).toNat).length = (ji4).toNat from (by rw [List.length_take]; have h_ : ((ji4) : Int) ≤ (l0_11.length : Int) := of_decide_eq_true (by first | (with_reducible assumption)); omega)] <;> rfl)) ?_
                with_reducible refine (lift_Clause.calls _ _ t230 _ _ t233 _ _ t236 _ _ t239 _ _ t242 t245 _ _ t246 _ _ t249 _ _ t252 _ _ t255 _ _ (l0_11.take ((ji4) : Int).toNat) t269 _ (by first | (refine tab_below HG.out ?_; repeat (first | (with_reducible first | exact HB.out)))) ?side1 ?side2 ?side3 ?side4 ?side5 ?side6 ?side7 ?side8 ?side9 ?side10 ?side11 ?side12 ?side13 ?side14 ?side15 ?side16 ?side17 ?side18 ?side19 ?side20 A13.out).mono ?_
                (case side1 => repeat (first | exact (Kd.R_reads' HO232.out).2.2))
                (case side2 => exact (Kd.R_reads' HO232.out).2.1)
                (case side3 => repeat (first | exact (Kd.R_reads' HO235.out).2.2))
                (case side4 => exact (Kd.R_reads' HO235.out).2.1)
                (case side5 => repeat (first | exact (Kd.R_reads' HO238.out).2.2))
                (case side6 => exact (Kd.R_reads' HO238.out).2.1)
                (case side7 => repeat (first | exact (Kd.R_reads' HO241.out).2.2))
                (case side8 => exact (Kd.R_reads' HO241.out).2.1)
                (case side9 => repeat (first | exact (Kd.R_reads' HO244.out).2.2))
                (case side10 => exact (Kd.R_reads' HO244.out).2.1)
                (case side11 => repeat (first | exact (Kd.R_reads' HO248.out).2.2))
                (case side12 => exact (Kd.R_reads' HO248.out).2.1)
                (case side13 => repeat (first | exact (Kd.R_reads' HO251.out).2.2))
                (case side14 => exact (Kd.R_reads' HO251.out).2.1)
                (case side15 => repeat (first | exact (Kd.R_reads' HO254.out).2.2))
                (case side16 => exact (Kd.R_reads' HO254.out).2.1)
                (case side17 => repeat (first | exact (Kd.R_reads' HO257.out).2.2))
                (case side18 => exact (Kd.R_reads' HO257.out).2.1)
                (case side19 => repeat (first | exact (Kd.C_below HR260.out HB.out)))
                (case side20 => exact HC260.out)
                rintro e w45 ⟨rfl, hb⟩
                refine ⟨_, rfl, ?_⟩
                have n0_ := Aside0.mk (Kd.R_below HO232.out hb)
                have n1_ := Aside0.mk (Kd.R_below HO235.out hb)
                have n2_ := Aside0.mk (Kd.R_below HO238.out hb)
                have n3_ := Aside0.mk (Kd.R_below HO241.out hb)
                have n4_ := Aside0.mk (Kd.R_below HO244.out hb)
                have n5_ := Aside0.mk (Kd.R_below HO248.out hb)
                have n6_ := Aside0.mk (Kd.R_below HO251.out hb)
                have n7_ := Aside0.mk (Kd.R_below HO254.out hb)
                have n8_ := Aside0.mk (Kd.R_below HO257.out hb)
                have n9_ := Aside0.mk (Kd.R_below HO263.out hb)
                have n10_ := Aside0.mk (Kd.R_below HO267.out hb)
                have n11_ := Aside0.mk (blk_below BK228.out hb)
                have n12_ := Aside0.mk (blk_below BK258.out hb)
                have n13_ := Aside0.mk (blk_below BK259.out hb)
                have n14_ := Aside0.mk (below_step HB.out hb)
                clear HO232
                clear HO235
                clear HO238
                clear HO241
                clear HO244
                clear HO248
                clear HO251
                clear HO254
                clear HO257
                clear HO263
                clear HO267
                clear BK228
                clear BK258
                clear BK259
                clear HB
                have HO232 := n0_
                have HO235 := n1_
                have HO238 := n2_
                have HO241 := n3_
                have HO244 := n4_
                have HO248 := n5_
                have HO251 := n6_
                have HO254 := n7_
                have HO257 := n8_
                have HO263 := n9_
                have HO267 := n10_
                have BK228 := n11_
                have BK258 := n12_
                have BK259 := n13_
                have HB := n14_
                clear n0_ n1_ n2_ n3_ n4_ n5_ n6_ n7_ n8_ n9_ n10_ n11_ n12_ n13_ n14_
                (try clear hb)
                (try clear hb2)
                (try clear hk)
                (try clear hi)
                refine hK.out _ _ ⟨(blk_cell BK258.out 0).trans rfl, (blk_cell BK258.out 1).trans rfl, (blk_cell BK258.out 2).trans rfl, (blk_cell BK258.out 3).trans rfl, (blk_cell BK258.out 4).trans rfl, (blk_cell BK259.out 0).trans rfl, (blk_cell BK259.out 1).trans rfl, (blk_cell BK259.out 2).trans rfl, (blk_cell BK259.out 3).trans rfl, (blk_cell BK259.out 4).trans rfl⟩ (fun hHeld => ?_)
                clear hK K
                refine norm_ (a' := ?_) ?_ ?_
                rotate_left
                · show Act.put _ (some 51) _ = _
                  simp only [Act.put, List.setIfInBounds_toArray, List.set_cons_zero, List.set_cons_succ, i64_w, i32_w]
                  rfl
                refine one_ (i := 9) (N := some 55) #[true, true, true, true, true, true, true, true, true, true, false, false, false, false, false, false, false, false, false, false, false, false, false] rfl rfl (one_of HT_.out (by kernel_rfl)) (by decide) (fun K hK => ?_)
                refine goes_ Tryz.func17 (by kernel_rfl) rfl #[.agg #[.slice Ao24 t230.length co24, .slice Ao28 t233.length co28, .slice Ao29 t236.length co29, .slice Ao30 t239.length co30, .slice Ao31 t242.length co31], .agg #[.int .i64 t245, .slice Ao34 t246.length co34, .slice Ao35 t249.length co35, .slice Ao36 t252.length co36, .slice Ao37 t255.length co37], .slice A0_11 (l0_11.take ((ji4) : Int).toNat).length c0_11] (by rfl) rfl rfl (by (try simp only [List.map_toArray, List.map_cons, List.map_nil]); first | (rw [show (l0_11.take ((ji4) : Int).toNat).length = (ji4).toNat from (by rw [List.length_take]; have h_ : ((ji4) : Int) ≤ (l0_11.length : Int) := of_decide_eq_true (by first | (with_reducible assumption)); omega)] <;> rfl)) ?_
                with_reducible refine (proofmarkref27_Clause.calls _ _ t230 _ _ t233 _ _ t236 _ _ t239 _ _ t242 t245 _ _ t246 _ _ t249 _ _ t252 _ _ t255 _ _ (l0_11.take ((ji4) : Int).toNat) t270 _ ?side1 ?side2 ?side3 ?side4 ?side5 ?side6 ?side7 ?side8 ?side9 ?side10 ?side11 ?side12 ?side13 ?side14 ?side15 ?side16 ?side17 ?side18 ?side19 ?side20 A14.out).mono ?_
                (case side1 => repeat (first | exact (Kd.R_reads' HO232.out).2.2))
                (case side2 => exact (Kd.R_reads' HO232.out).2.1)
                (case side3 => repeat (first | exact (Kd.R_reads' HO235.out).2.2))
                (case side4 => exact (Kd.R_reads' HO235.out).2.1)
                (case side5 => repeat (first | exact (Kd.R_reads' HO238.out).2.2))
                (case side6 => exact (Kd.R_reads' HO238.out).2.1)
                (case side7 => repeat (first | exact (Kd.R_reads' HO241.out).2.2))
                (case side8 => exact (Kd.R_reads' HO241.out).2.1)
                (case side9 => repeat (first | exact (Kd.R_reads' HO244.out).2.2))
                (case side10 => exact (Kd.R_reads' HO244.out).2.1)
                (case side11 => repeat (first | exact (Kd.R_reads' HO248.out).2.2))
                (case side12 => exact (Kd.R_reads' HO248.out).2.1)
                (case side13 => repeat (first | exact (Kd.R_reads' HO251.out).2.2))
                (case side14 => exact (Kd.R_reads' HO251.out).2.1)
                (case side15 => repeat (first | exact (Kd.R_reads' HO254.out).2.2))
                (case side16 => exact (Kd.R_reads' HO254.out).2.1)
                (case side17 => repeat (first | exact (Kd.R_reads' HO257.out).2.2))
                (case side18 => exact (Kd.R_reads' HO257.out).2.1)
                (case side19 => repeat (first | exact (Kd.C_below HR260.out HB.out)))
                (case side20 => exact HC260.out)
                rintro e w46 ⟨rfl, hb⟩
                refine ⟨_, rfl, ?_⟩
                have n0_ := Aside0.mk (Kd.R_below HO232.out hb)
                have n1_ := Aside0.mk (Kd.R_below HO235.out hb)
                have n2_ := Aside0.mk (Kd.R_below HO238.out hb)
                have n3_ := Aside0.mk (Kd.R_below HO241.out hb)
                have n4_ := Aside0.mk (Kd.R_below HO244.out hb)
                have n5_ := Aside0.mk (Kd.R_below HO248.out hb)
                have n6_ := Aside0.mk (Kd.R_below HO251.out hb)
                have n7_ := Aside0.mk (Kd.R_below HO254.out hb)
                have n8_ := Aside0.mk (Kd.R_below HO257.out hb)
                have n9_ := Aside0.mk (Kd.R_below HO263.out hb)
                have n10_ := Aside0.mk (Kd.R_below HO267.out hb)
                have n11_ := Aside0.mk (blk_below BK228.out hb)
                have n12_ := Aside0.mk (blk_below BK258.out hb)
                have n13_ := Aside0.mk (blk_below BK259.out hb)
                have n14_ := Aside0.mk (below_step HB.out hb)
                clear HO232
                clear HO235
                clear HO238
                clear HO241
                clear HO244
                clear HO248
                clear HO251
                clear HO254
                clear HO257
                clear HO263
                clear HO267
                clear BK228
                clear BK258
                clear BK259
                clear HB
                have HO232 := n0_
                have HO235 := n1_
                have HO238 := n2_
                have HO241 := n3_
                have HO244 := n4_
                have HO248 := n5_
                have HO251 := n6_
                have HO254 := n7_
                have HO257 := n8_
                have HO263 := n9_
                have HO267 := n10_
                have BK228 := n11_
                have BK258 := n12_
                have BK259 := n13_
                have HB := n14_
                clear n0_ n1_ n2_ n3_ n4_ n5_ n6_ n7_ n8_ n9_ n10_ n11_ n12_ n13_ n14_
                (try clear hb)
                (try clear hb2)
                (try clear hk)
                (try clear hi)
                obtain ⟨Ao47, co47, eo47⟩ := Kd.R_slice HO263.out
                (first | subst eo47)
                obtain ⟨Ao48, co48, eo48⟩ := Kd.R_slice HO267.out
                (first | subst eo48)
                refine hK.out _ _ ⟨(blk_cell BK258.out 0).trans rfl, (blk_cell BK258.out 1).trans rfl, (blk_cell BK258.out 2).trans rfl, (blk_cell BK258.out 3).trans rfl, (blk_cell BK258.out 4).trans rfl, (blk_cell BK259.out 0).trans rfl, (blk_cell BK259.out 1).trans rfl, (blk_cell BK259.out 2).trans rfl, (blk_cell BK259.out 3).trans rfl, (blk_cell BK259.out 4).trans rfl⟩ (fun hHeld => ?_)
                clear hK K
                refine norm_ (a' := ?_) ?_ ?_
                rotate_left
                · show Act.put _ (some 55) _ = _
                  simp only [Act.put, List.setIfInBounds_toArray, List.set_cons_zero, List.set_cons_succ, i64_w, i32_w]
                  rfl
                refine pure_ (i := 10) (N := some 56) (v := ?_) (a' := ?_) #[true, true, true, true, true, true, true, true, true, true, true, false, false, false, false, false, false, false, false, false, false, false, false] rfl rfl (any_of HT_.out (by kernel_rfl)) (fun _ _ _ h => h) (Or.inl ⟨by rfl, ?_⟩) ?_ ?_
                rotate_left
                · intro w'
                  go_simp
                  with_reducible rfl
                rotate_left
                · simp only [Act.put, List.setIfInBounds_toArray, List.set_cons_zero, List.set_cons_succ, i64_w, i32_w]
                  rfl
                refine pure_ (i := 11) (N := some 57) (v := ?_) (a' := ?_) #[true, true, true, true, true, true, true, true, true, true, true, true, false, false, false, false, false, false, false, false, false, false, false] rfl rfl (any_of HT_.out (by kernel_rfl)) (fun _ _ _ h => h) (Or.inl ⟨by rfl, ?_⟩) ?_ ?_
                rotate_left
                · intro w'
                  go_simp
                  with_reducible rfl
                rotate_left
                · simp only [Act.put, List.setIfInBounds_toArray, List.set_cons_zero, List.set_cons_succ, i64_w, i32_w]
                  rfl
                refine pure_ (i := 12) (N := some 58) (v := ?_) (a' := ?_) #[true, true, true, true, true, true, true, true, true, true, true, true, true, false, false, false, false, false, false, false, false, false, false] rfl rfl (any_of HT_.out (by kernel_rfl)) (fun _ _ _ h => h) (Or.inl ⟨by rfl, ?_⟩) ?_ ?_
                rotate_left
                · intro w'
                  go_simp
                  with_reducible rfl
                rotate_left
                · simp only [Act.put, List.setIfInBounds_toArray, List.set_cons_zero, List.set_cons_succ, i64_w, i32_w]
                  rfl
                refine pure_ (i := 13) (N := some 59) (v := ?_) (a' := ?_) #[true, true, true, true, true, true, true, true, true, true, true, true, true, true, false, false, false, false, false, false, false, false, false] rfl rfl (any_of HT_.out (by kernel_rfl)) (fun _ _ _ h => h) (Or.inl ⟨by rfl, ?_⟩) ?_ ?_
                rotate_left
                · intro w'
                  go_simp
                  with_reducible rfl
                rotate_left
                · simp only [Act.put, List.setIfInBounds_toArray, List.set_cons_zero, List.set_cons_succ, i64_w, i32_w]
                  rfl
                refine pure_ (i := 14) (N := some 60) (v := ?_) (a' := ?_) #[true, true, true, true, true, true, true, true, true, true, true, true, true, true, true, false, false, false, false, false, false, false, false] rfl rfl (any_of HT_.out (by kernel_rfl)) (fun _ _ _ h => h) (Or.inl ⟨by rfl, ?_⟩) ?_ ?_
                rotate_left
                · intro w'
                  go_simp
                  with_reducible rfl
                rotate_left
                · simp only [Act.put, List.setIfInBounds_toArray, List.set_cons_zero, List.set_cons_succ, i64_w, i32_w]
                  rfl
                refine pure_ (i := 15) (N := some 61) (v := ?_) (a' := ?_) #[true, true, true, true, true, true, true, true, true, true, true, true, true, true, true, true, false, false, false, false, false, false, false] rfl rfl (any_of HT_.out (by kernel_rfl)) (fun _ _ _ h => h) (Or.inl ⟨by rfl, ?_⟩) ?_ ?_
                rotate_left
                · intro w'
                  go_simp
                  with_reducible rfl
                rotate_left
                · simp only [Act.put, List.setIfInBounds_toArray, List.set_cons_zero, List.set_cons_succ, i64_w, i32_w]
                  rfl
                refine pure_ (i := 16) (N := some 62) (v := ?_) (a' := ?_) #[true, true, true, true, true, true, true, true, true, true, true, true, true, true, true, true, true, false, false, false, false, false, false] rfl rfl (any_of HT_.out (by kernel_rfl)) (fun _ _ _ h => h) (Or.inl ⟨by rfl, ?_⟩) ?_ ?_
                rotate_left
                · intro w'
                  go_simp
                  with_reducible rfl
                rotate_left
                · simp only [Act.put, List.setIfInBounds_toArray, List.set_cons_zero, List.set_cons_succ, i64_w, i32_w]
                  rfl
                refine pure_ (i := 17) (N := some 63) (v := ?_) (a' := ?_) #[true, true, true, true, true, true, true, true, true, true, true, true, true, true, true, true, true, true, false, false, false, false, false] rfl rfl (any_of HT_.out (by kernel_rfl)) (fun _ _ _ h => h) (Or.inl ⟨by rfl, ?_⟩) ?_ ?_
                rotate_left
                · intro w'
                  go_simp
                  with_reducible rfl
                rotate_left
                · simp only [Act.put, List.setIfInBounds_toArray, List.set_cons_zero, List.set_cons_succ, i64_w, i32_w]
                  rfl
                refine pure_ (i := 18) (N := some 64) (v := ?_) (a' := ?_) #[true, true, true, true, true, true, true, true, true, true, true, true, true, true, true, true, true, true, true, false, false, false, false] rfl rfl (any_of HT_.out (by kernel_rfl)) (fun _ _ _ h => h) (Or.inl ⟨by rfl, ?_⟩) ?_ ?_
                rotate_left
                · intro w'
                  go_simp
                  with_reducible rfl
                rotate_left
                · simp only [Act.put, List.setIfInBounds_toArray, List.set_cons_zero, List.set_cons_succ, i64_w, i32_w]
                  rfl
                refine pure_ (i := 19) (N := some 65) (v := ?_) (a' := ?_) #[true, true, true, true, true, true, true, true, true, true, true, true, true, true, true, true, true, true, true, true, false, false, false] rfl rfl (any_of HT_.out (by kernel_rfl)) (fun _ _ _ h => h) (Or.inl ⟨by rfl, ?_⟩) ?_ ?_
                rotate_left
                · intro w'
                  go_simp
                  with_reducible rfl
                rotate_left
                · simp only [Act.put, List.setIfInBounds_toArray, List.set_cons_zero, List.set_cons_succ, i64_w, i32_w]
                  rfl
                refine one_ (i := 20) (N := some 66) #[true, true, true, true, true, true, true, true, true, true, true, true, true, true, true, true, true, true, true, true, true, false, false] rfl rfl (one_of HT_.out (by kernel_rfl)) (by decide) (fun K hK => ?_)
                refine goes_ Tryz.func18 (by kernel_rfl) rfl #[.slice Ao47 t261.length co47, .slice Ao48 t265.length co48] (by rfl) rfl rfl (by (try simp only [List.map_toArray, List.map_cons, List.map_nil]); first | rfl) ?_
                with_reducible refine (proofmarkref27_SameInts.calls k _ _ t261 _ _ t265 t271 _ ?side1 ?side2 ?side3 ?side4 A17.out).mono ?_
                (case side1 => repeat (first | exact (Kd.R_reads' HO263.out).2.2))
                (case side2 => exact (Kd.R_reads' HO263.out).2.1)
                (case side3 => repeat (first | exact (Kd.R_reads' HO267.out).2.2))
                (case side4 => exact (Kd.R_reads' HO267.out).2.1)
                rintro e w' ⟨rfl, ⟨nd, rfl⟩⟩
                refine ⟨_, rfl, ?_⟩
                refine hK.out _ _ ⟨(blk_cell BK258.out 0).trans rfl, (blk_cell BK258.out 1).trans rfl, (blk_cell BK258.out 2).trans rfl, (blk_cell BK258.out 3).trans rfl, (blk_cell BK258.out 4).trans rfl, (blk_cell BK259.out 0).trans rfl, (blk_cell BK259.out 1).trans rfl, (blk_cell BK259.out 2).trans rfl, (blk_cell BK259.out 3).trans rfl, (blk_cell BK259.out 4).trans rfl⟩ (fun hHeld => ?_)
                clear hK K
                refine norm_ (a' := ?_) ?_ ?_
                rotate_left
                · show Act.put _ (some 66) _ = _
                  simp only [Act.put, List.setIfInBounds_toArray, List.set_cons_zero, List.set_cons_succ, i64_w, i32_w]
                  rfl
                refine pure_ (i := 21) (N := some 67) (v := ?_) (a' := ?_) #[true, true, true, true, true, true, true, true, true, true, true, true, true, true, true, true, true, true, true, true, true, true, false] rfl rfl (any_of HT_.out (by kernel_rfl)) (fun _ _ _ h => h) (Or.inl ⟨by rfl, ?_⟩) ?_ ?_
                rotate_left
                · intro w'
                  go_simp
                  with_reducible rfl
                rotate_left
                · simp only [Act.put, List.setIfInBounds_toArray, List.set_cons_zero, List.set_cons_succ, i64_w, i32_w]
                  rfl
                refine pure_ (i := 22) (N := some 2) (v := ?_) (a' := ?_) #[true, true, true, true, true, true, true, true, true, true, true, true, true, true, true, true, true, true, true, true, true, true, true] rfl rfl (any_of HT_.out (by kernel_rfl)) (fun _ _ _ h => h) (Or.inl ⟨by rfl, ?_⟩) ?_ ?_
                rotate_left
                · intro w'
                  go_simp
                  with_reducible rfl
                rotate_left
                · simp only [Act.put, List.setIfInBounds_toArray, List.set_cons_zero, List.set_cons_succ, i64_w, i32_w]
                  rfl
                refine done_ (done_of HT_.out (by kernel_rfl)) ?_
                try go_wp2
                go_ret
                exact ⟨by first | rfl, by repeat (first | (with_reducible first | exact HB.out | apply pw_below_drewN))⟩
              · rw [if_neg c16] at H; exact absurd (Option.some.inj H) (by rw [HRT.out]; decide)
            · rw [if_neg c15] at H; exact absurd (Option.some.inj H) (by rw [HRT.out]; decide)
          · replace c12 := Bool.eq_false_iff.mpr c12
            subst c12
            have H1 : (some false) = some r := by rw [if_neg (show ¬ (false = true) by decide)] at H; exact H
            exact absurd (Option.some.inj H1) (by rw [HRT.out]; decide)
        · rw [if_neg c9] at H
          exact absurd H (by simp)
      · rw [if_neg c8] at H
        exact absurd H (by simp)
    · rw [if_neg c6] at H
      exact absurd H (by simp)
  · rw [if_neg c5] at H
    exact absurd H (by simp)


end Go.Proofs.YtmfekngjhiofaaaGreatDoor.Q
