-- Written by the session's own program (wip/tools/ownprint.py) for this claim: functions of the translation as plain Lean functions, and their contracts.
import Derived.Test.YtmfekngjhiofaaaDoorQx0
import Derived.Test.YtmfekngjhiofaaaDoorQx11
import Derived.Test.YtmfekngjhiofaaaDoorQx27
namespace Go.Proofs.YtmfekngjhiofaaaDoor.Q
open Go.RowKit Go.Proofs.YtmfekngjhiofaaaDoorW.PrintWords Go.Proofs.YtmfekngjhiofaaaDoorW.PrintLast Go.Proofs.YtmfekngjhiofaaaDoorW.PrintMore
attribute [local go_sem] max2_int min2_int max_two min_two max_three min_three max_four min_four   -- for this text's walks alone
set_option linter.unusedVariables false
set_option linter.unusedSimpArgs false

-- BY HAND: function 30 (lift_Back)

/-! ### proofmarkref27_SameRows: function 31 -/
def proofmarkref27_SameRows.l0 : Nat → List (List Int) → List (List Int) → Int → Option (Bool)
  | 0, _, _, _ => none
  | k + 1, x0, x1, x5 => if x5 < (x0.length : Int) then (if 0 ≤ x5 then (if x5 < (x1.length : Int) then ((proofmarkref27_SameInts.f k (rd_L23 x0 x5) (rd_L23 x1 x5)).bind fun t456 => (if t456 = true then (proofmarkref27_SameRows.l0 k x0 x1 (wrap64 (x5 + 1))) else (some false))) else (none)) else (none)) else (some true)
def proofmarkref27_SameRows.f (k : Nat) (l0 : List (List Int)) (l1 : List (List Int)) : Option (Bool) := if (l0.length : Int) = (l1.length : Int) then (proofmarkref27_SameRows.l0 k l0 l1 0) else (some false)
theorem proofmarkref27_SameRows.mono_l : ∀ k, (∀ y0 y1 y2, LeO (proofmarkref27_SameRows.l0 k y0 y1 y2) (proofmarkref27_SameRows.l0 (k + 1) y0 y1 y2))
  | 0 => fun _ _ _ r h => by simp [proofmarkref27_SameRows.l0] at h
  | k + 1 => by
    have ih0 := proofmarkref27_SameRows.mono_l k
    · intro y0 y1 y2
      unfold proofmarkref27_SameRows.l0
      repeat' first
      | (with_reducible exact ih0 _ _ _)
      | (with_reducible exact proofmarkref27_SameInts.mono _ _ _)
      | (with_reducible exact LeO.refl _)
      | (with_reducible exact LeO.none _)
      | (with_reducible refine LeO.ite ?_ ?_)
      | (with_reducible refine LeO.bind ?_ (fun _ => ?_))
      | exact ih0 _ _ _
      | exact proofmarkref27_SameInts.mono _ _ _
      | exact LeO.none _
      | refine LeO.ite ?_ ?_
      | refine LeO.bind ?_ (fun _ => ?_)
theorem proofmarkref27_SameRows.mono : ∀ a0 a1 k, LeO (proofmarkref27_SameRows.f k a0 a1) (proofmarkref27_SameRows.f (k + 1) a0 a1) := by
  intro a0 a1 k
  have ih0 := proofmarkref27_SameRows.mono_l k
  unfold proofmarkref27_SameRows.f
  repeat' first
      | (with_reducible exact ih0 _ _ _)
      | (with_reducible exact proofmarkref27_SameInts.mono _ _ _)
      | (with_reducible exact LeO.refl _)
      | (with_reducible exact LeO.none _)
      | (with_reducible refine LeO.ite ?_ ?_)
      | (with_reducible refine LeO.bind ?_ (fun _ => ?_))
      | exact ih0 _ _ _
      | exact proofmarkref27_SameInts.mono _ _ _
      | exact LeO.none _
      | refine LeO.ite ?_ ?_
      | refine LeO.bind ?_ (fun _ => ?_)
set_option maxHeartbeats 8000000 in
set_option maxRecDepth 100000 in
theorem proofmarkref27_SameRows.calls (k : Nat) (A0 : Option Addr) (c0 : Nat) (l0 : List (List Int)) (A1 : Option Addr) (c1 : Nat) (l1 : List (List Int)) (r : Bool) (w : World) (hr0 : Kd.C (Kd.slice 3 (Kd.int .i64)) w A0 l0.length l0) (hc0 : l0.length ≤ c0) (hr1 : Kd.C (Kd.slice 3 (Kd.int .i64)) w A1 l1.length l1) (hc1 : l1.length ≤ c1) (h : proofmarkref27_SameRows.f k l0 l1 = some r) :
    Calls Tryd.prog 31 #[.slice A0 l0.length c0, .slice A1 l1.length c1] w fun e w' => e = .returned (.bool r) ∧ Drawn0 w w' := by
  have HR0 := Aside0.mk hr0
  have HC0 := Aside0.mk hc0
  clear hr0 hc0
  have HR1 := Aside0.mk hr1
  have HC1 := Aside0.mk hc1
  clear hr1 hc1
  have H : (if (l0.length : Int) = (l1.length : Int) then (proofmarkref27_SameRows.l0 k l0 l1 0) else (some false)) = some r := h
  clear h
  by_cases c3 : (l0.length : Int) = (l1.length : Int)
  · rw [if_pos c3] at H
    have c3b0 : ((l0.length : Int) == (l1.length : Int)) = true := beq_iff_eq.mpr c3
    have c3b1 : ((l0.length : Int) != (l1.length : Int)) = false := bne_eq_false_iff_eq.mpr c3
    have c3b2 : (l0.length == l1.length) = true := by first | simpa using c3 | (simp at c3 ⊢; omega)
    clear c3
    have H' := Aside0.mk H
    clear H
    go_enter Tryd.func31, Tryd.ntmps31
    go_wp2
    repeat (go_quiet (fail); try go_wp2)
    try simp only [Act.put, List.setIfInBounds_toArray, List.set_cons_succ, List.set_cons_zero]
    go_loopg [5] k (fun kq v5 w' => ∃ (x5_1 : Int), v5 = .int .i64 x5_1 ∧ Aside0 (proofmarkref27_SameRows.l0 kq l0 l1 x5_1 = some r) ∧ Aside0 (kq ≤ k) ∧ Drawn0 w w')
    case atStart => exact ⟨(0), (by first | rfl | (simp; done) | (simp [*]; done)), H', ⟨Nat.le_refl _⟩, by repeat (first | exact Drawn0.refl _ | apply Drawn0.step)⟩
    case round =>
      clear H'
      try clear c1
      try clear p2
      try clear c3
      try clear c3b0
      try clear c3b1
      try clear c3b2
      obtain ⟨x5_1, rfl, HA, HK1, ⟨m1, rfl⟩⟩ := hrel
      cases gk with
      | zero => exact absurd HA.out (by simp [proofmarkref27_SameRows.l0])
      | succ k1 =>
        have H := HA.out
        clear HA
        simp only [proofmarkref27_SameRows.l0] at H
        by_cases c4 : x5_1 < (l0.length : Int)
        · rw [if_pos c4] at H
          have c4b0 : decide (x5_1 < (l0.length : Int)) = true := decide_eq_true c4
          clear c4
          by_cases c5 : 0 ≤ x5_1
          · rw [if_pos c5] at H
            have c5b0 : decide (0 ≤ x5_1) = true := decide_eq_true c5
            clear c5
            by_cases c6 : x5_1 < (l1.length : Int)
            · rw [if_pos c6] at H
              have c6b0 : decide (x5_1 < (l1.length : Int)) = true := decide_eq_true c6
              clear c6
              replace H := Option.bind_eq_some_iff.mp H
              obtain ⟨t456, A70, H⟩ := H
              replace H : (if t456 = true then (proofmarkref27_SameRows.l0 k1 l0 l1 (wrap64 (x5_1 + 1))) else (some false)) = some r := H
              have A7 := Aside0.mk A70
              clear A70
              by_cases c8 : t456 = true
              · subst c8
                have H1 : (proofmarkref27_SameRows.l0 k1 l0 l1 (wrap64 (x5_1 + 1))) = some r := by rw [if_pos rfl] at H; exact H
                clear H
                have H := H1
                clear H1
                have H' := Aside0.mk H
                clear H
                have p454 : 0 ≤ (x5_1 : Int) := of_decide_eq_true (by first | (with_reducible assumption) | assumption)
                have q454 : x5_1 < (l0.length : Int) := of_decide_eq_true (by first | (with_reducible assumption) | assumption)
                obtain ⟨ad454, A454_0, c454_0, e454, hx454_0, hl454_0, hi454_0⟩ := at_L23 HR0.out x5_1 p454 q454
                cases e454
                have HR454_0 := Aside0.mk hi454_0
                have HC454_0 := Aside0.mk hl454_0
                clear hi454_0 hl454_0
                replace p454 := eq_true p454
                replace q454 := eq_true q454
                have p455 : 0 ≤ (x5_1 : Int) := of_decide_eq_true (by first | (with_reducible assumption) | assumption)
                have q455 : x5_1 < (l1.length : Int) := of_decide_eq_true (by first | (with_reducible assumption) | assumption)
                obtain ⟨ad455, A455_0, c455_0, e455, hx455_0, hl455_0, hi455_0⟩ := at_L23 HR1.out x5_1 p455 q455
                cases e455
                have HR455_0 := Aside0.mk hi455_0
                have HC455_0 := Aside0.mk hl455_0
                clear hi455_0 hl455_0
                replace p455 := eq_true p455
                replace q455 := eq_true q455
                go_wp2_with (first | (go_at_call 25; (with_reducible refine (proofmarkref27_SameInts.calls k1 _ _ (rd_L23 l0 x5_1) _ _ (rd_L23 l1 x5_1) true _ ?side1 ?side2 ?side3 ?side4 A7.out).mono ?_); (case side1 => repeat (first | exact HR454_0.out | (with_reducible refine Kd.C_alloc ?_ _) | (with_reducible refine Kd.C_drewN ?_ _) | (with_reducible refine Kd.C_drew ?_))); (case side2 => exact HC454_0.out); (case side3 => repeat (first | exact HR455_0.out | (with_reducible refine Kd.C_alloc ?_ _) | (with_reducible refine Kd.C_drewN ?_ _) | (with_reducible refine Kd.C_drew ?_))); (case side4 => exact HC455_0.out); rintro e w' ⟨rfl, ⟨nd, rfl⟩⟩; (try first | exact ⟨rfl, _, World.drewN_drewN _ _ _⟩ | exact ⟨rfl, _, Eq.trans (World.drewN_drewN _ _ _) (congrArg (World.drewN _) (Nat.add_assoc _ _ _))⟩)))
                repeat (go_quiet (first | (go_at_call 25; (with_reducible refine (proofmarkref27_SameInts.calls k1 _ _ (rd_L23 l0 x5_1) _ _ (rd_L23 l1 x5_1) true _ ?side1 ?side2 ?side3 ?side4 A7.out).mono ?_); (case side1 => repeat (first | exact HR454_0.out | (with_reducible refine Kd.C_alloc ?_ _) | (with_reducible refine Kd.C_drewN ?_ _) | (with_reducible refine Kd.C_drew ?_))); (case side2 => exact HC454_0.out); (case side3 => repeat (first | exact HR455_0.out | (with_reducible refine Kd.C_alloc ?_ _) | (with_reducible refine Kd.C_drewN ?_ _) | (with_reducible refine Kd.C_drew ?_))); (case side4 => exact HC455_0.out); rintro e w' ⟨rfl, ⟨nd, rfl⟩⟩; (try first | exact ⟨rfl, _, World.drewN_drewN _ _ _⟩ | exact ⟨rfl, _, Eq.trans (World.drewN_drewN _ _ _) (congrArg (World.drewN _) (Nat.add_assoc _ _ _))⟩))); try go_wp2_with (first | (go_at_call 25; (with_reducible refine (proofmarkref27_SameInts.calls k1 _ _ (rd_L23 l0 x5_1) _ _ (rd_L23 l1 x5_1) true _ ?side1 ?side2 ?side3 ?side4 A7.out).mono ?_); (case side1 => repeat (first | exact HR454_0.out | (with_reducible refine Kd.C_alloc ?_ _) | (with_reducible refine Kd.C_drewN ?_ _) | (with_reducible refine Kd.C_drew ?_))); (case side2 => exact HC454_0.out); (case side3 => repeat (first | exact HR455_0.out | (with_reducible refine Kd.C_alloc ?_ _) | (with_reducible refine Kd.C_drewN ?_ _) | (with_reducible refine Kd.C_drew ?_))); (case side4 => exact HC455_0.out); rintro e w' ⟨rfl, ⟨nd, rfl⟩⟩; (try first | exact ⟨rfl, _, World.drewN_drewN _ _ _⟩ | exact ⟨rfl, _, Eq.trans (World.drewN_drewN _ _ _) (congrArg (World.drewN _) (Nat.add_assoc _ _ _))⟩))))
                go_roundg k1
                case measure => have := HK1.out; omega
                case rel => exact ⟨(wrap64 (x5_1 + 1)), (by first | rfl | (simp; done) | (simp [*]; done)), H', ⟨by have := HK1.out; omega⟩, by repeat (first | exact Drawn0.refl _ | apply Drawn0.step)⟩
              · replace c8 := Bool.eq_false_iff.mpr c8
                subst c8
                have H1 : (some false) = some r := by rw [if_neg (show ¬ (false = true) by decide)] at H; exact H
                clear H
                have H := H1
                clear H1
                obtain rfl := Option.some.inj H
                have p454 : 0 ≤ (x5_1 : Int) := of_decide_eq_true (by first | (with_reducible assumption) | assumption)
                have q454 : x5_1 < (l0.length : Int) := of_decide_eq_true (by first | (with_reducible assumption) | assumption)
                obtain ⟨ad454, A454_0, c454_0, e454, hx454_0, hl454_0, hi454_0⟩ := at_L23 HR0.out x5_1 p454 q454
                cases e454
                have HR454_0 := Aside0.mk hi454_0
                have HC454_0 := Aside0.mk hl454_0
                clear hi454_0 hl454_0
                replace p454 := eq_true p454
                replace q454 := eq_true q454
                have p455 : 0 ≤ (x5_1 : Int) := of_decide_eq_true (by first | (with_reducible assumption) | assumption)
                have q455 : x5_1 < (l1.length : Int) := of_decide_eq_true (by first | (with_reducible assumption) | assumption)
                obtain ⟨ad455, A455_0, c455_0, e455, hx455_0, hl455_0, hi455_0⟩ := at_L23 HR1.out x5_1 p455 q455
                cases e455
                have HR455_0 := Aside0.mk hi455_0
                have HC455_0 := Aside0.mk hl455_0
                clear hi455_0 hl455_0
                replace p455 := eq_true p455
                replace q455 := eq_true q455
                go_wp2_with (first | (go_at_call 25; (with_reducible refine (proofmarkref27_SameInts.calls k1 _ _ (rd_L23 l0 x5_1) _ _ (rd_L23 l1 x5_1) false _ ?side1 ?side2 ?side3 ?side4 A7.out).mono ?_); (case side1 => repeat (first | exact HR454_0.out | (with_reducible refine Kd.C_alloc ?_ _) | (with_reducible refine Kd.C_drewN ?_ _) | (with_reducible refine Kd.C_drew ?_))); (case side2 => exact HC454_0.out); (case side3 => repeat (first | exact HR455_0.out | (with_reducible refine Kd.C_alloc ?_ _) | (with_reducible refine Kd.C_drewN ?_ _) | (with_reducible refine Kd.C_drew ?_))); (case side4 => exact HC455_0.out); rintro e w' ⟨rfl, ⟨nd, rfl⟩⟩; (try first | exact ⟨rfl, _, World.drewN_drewN _ _ _⟩ | exact ⟨rfl, _, Eq.trans (World.drewN_drewN _ _ _) (congrArg (World.drewN _) (Nat.add_assoc _ _ _))⟩)))
                repeat (go_quiet (first | (go_at_call 25; (with_reducible refine (proofmarkref27_SameInts.calls k1 _ _ (rd_L23 l0 x5_1) _ _ (rd_L23 l1 x5_1) false _ ?side1 ?side2 ?side3 ?side4 A7.out).mono ?_); (case side1 => repeat (first | exact HR454_0.out | (with_reducible refine Kd.C_alloc ?_ _) | (with_reducible refine Kd.C_drewN ?_ _) | (with_reducible refine Kd.C_drew ?_))); (case side2 => exact HC454_0.out); (case side3 => repeat (first | exact HR455_0.out | (with_reducible refine Kd.C_alloc ?_ _) | (with_reducible refine Kd.C_drewN ?_ _) | (with_reducible refine Kd.C_drew ?_))); (case side4 => exact HC455_0.out); rintro e w' ⟨rfl, ⟨nd, rfl⟩⟩; (try first | exact ⟨rfl, _, World.drewN_drewN _ _ _⟩ | exact ⟨rfl, _, Eq.trans (World.drewN_drewN _ _ _) (congrArg (World.drewN _) (Nat.add_assoc _ _ _))⟩))); try go_wp2_with (first | (go_at_call 25; (with_reducible refine (proofmarkref27_SameInts.calls k1 _ _ (rd_L23 l0 x5_1) _ _ (rd_L23 l1 x5_1) false _ ?side1 ?side2 ?side3 ?side4 A7.out).mono ?_); (case side1 => repeat (first | exact HR454_0.out | (with_reducible refine Kd.C_alloc ?_ _) | (with_reducible refine Kd.C_drewN ?_ _) | (with_reducible refine Kd.C_drew ?_))); (case side2 => exact HC454_0.out); (case side3 => repeat (first | exact HR455_0.out | (with_reducible refine Kd.C_alloc ?_ _) | (with_reducible refine Kd.C_drewN ?_ _) | (with_reducible refine Kd.C_drew ?_))); (case side4 => exact HC455_0.out); rintro e w' ⟨rfl, ⟨nd, rfl⟩⟩; (try first | exact ⟨rfl, _, World.drewN_drewN _ _ _⟩ | exact ⟨rfl, _, Eq.trans (World.drewN_drewN _ _ _) (congrArg (World.drewN _) (Nat.add_assoc _ _ _))⟩))))
                go_ret
                exact ⟨by first | rfl | (simp; done) | (simp [*]; done), by repeat (first | exact Drawn0.refl _ | apply Drawn0.step)⟩
            · rw [if_neg c6] at H
              exact absurd H (by simp)
          · rw [if_neg c5] at H
            exact absurd H (by simp)
        · rw [if_neg c4] at H
          have c4b0 : decide (x5_1 < (l0.length : Int)) = false := decide_eq_false c4
          clear c4
          obtain rfl := Option.some.inj H
          go_wp2
          repeat (go_quiet (fail); try go_wp2)
          go_ret
          exact ⟨by first | rfl | (simp; done) | (simp [*]; done), by repeat (first | exact Drawn0.refl _ | apply Drawn0.step)⟩
  · rw [if_neg c3] at H
    have c3b0 : ((l0.length : Int) == (l1.length : Int)) = false := beq_eq_false_iff_ne.mpr c3
    have c3b1 : ((l0.length : Int) != (l1.length : Int)) = true := bne_iff_ne.mpr c3
    have c3b2 : (l0.length == l1.length) = false := by first | simpa using c3 | (simp at c3 ⊢; omega)
    obtain rfl := Option.some.inj H
    go_enter Tryd.func31, Tryd.ntmps31
    go_wp2
    repeat (go_quiet (fail); try go_wp2)
    go_ret
    exact ⟨by first | rfl | (simp; done) | (simp [*]; done), by repeat (first | exact Drawn0.refl _ | apply Drawn0.step)⟩

/-! ### proofmarklaw27_net: function 55 -/
def proofmarklaw27_net.f  : Option ((List (S96)) × (List (S111)) × (List (S94)) × (List (S73)) × (List (S111))) := some (([] : List (S96)), (([(⟨(⟨#[97]⟩ : ByteArray), 0⟩ : S111), (⟨(⟨#[98]⟩ : ByteArray), 0⟩ : S111)] : List (S111))), (([(⟨(⟨#[120]⟩ : ByteArray), 0, 0, 0⟩ : S94), (⟨(⟨#[121]⟩ : ByteArray), 0, 0, 0⟩ : S94)] : List (S94))), ([] : List (S73)), ([] : List (S111)))
set_option maxHeartbeats 8000000 in
set_option maxRecDepth 100000 in
theorem proofmarklaw27_net.calls  (r1 : List (S96)) (r2 : List (S111)) (r3 : List (S94)) (r4 : List (S73)) (r5 : List (S111)) (w : World) (h : proofmarklaw27_net.f  = some (r1, r2, r3, r4, r5)) :
    Calls Tryd.prog 55 #[] w fun e w' => ∃ v0_ v1_ v2_ v3_ v4_ : Value, e = .returned (.agg #[v0_, v1_, v2_, v3_, v4_]) ∧ Kd.R k96 96 w' w.heap.size (fun _ => True) v0_ r1 ∧ Kd.R k111 111 w' w.heap.size (fun k_ => some k_ ≠ (v4_ : Value).ownBlock) v1_ r2 ∧ Kd.R k94 94 w' w.heap.size (fun _ => True) v2_ r3 ∧ Kd.R k73 73 w' w.heap.size (fun _ => True) v3_ r4 ∧ Kd.R k111 111 w' w.heap.size (fun k_ => some k_ ≠ (v1_ : Value).ownBlock) v4_ r5 ∧ Below w.heap.size w w' := by
  have hu27 := Tryd.underlying27
  have hu111 := Tryd.underlying111
  have hu94 := Tryd.underlying94
  have HB := Aside0.mk (Below.refl w.heap.size w)
  have H : (some (([] : List (S96)), (([(⟨(⟨#[97]⟩ : ByteArray), 0⟩ : S111), (⟨(⟨#[98]⟩ : ByteArray), 0⟩ : S111)] : List (S111))), (([(⟨(⟨#[120]⟩ : ByteArray), 0, 0, 0⟩ : S94), (⟨(⟨#[121]⟩ : ByteArray), 0, 0, 0⟩ : S94)] : List (S94))), ([] : List (S73)), ([] : List (S111)))) = some (r1, r2, r3, r4, r5) := h
  clear h
  obtain ⟨y458, hy458⟩ : ∃ y_ : List (S111), y_ = (([(⟨(⟨#[97]⟩ : ByteArray), 0⟩ : S111), (⟨(⟨#[98]⟩ : ByteArray), 0⟩ : S111)] : List (S111))) := ⟨_, rfl⟩
  replace H : (some (([] : List (S96)), y458, (([(⟨(⟨#[120]⟩ : ByteArray), 0, 0, 0⟩ : S94), (⟨(⟨#[121]⟩ : ByteArray), 0, 0, 0⟩ : S94)] : List (S94))), ([] : List (S73)), ([] : List (S111)))) = some (r1, r2, r3, r4, r5) := by first | (rw [hy458]; with_reducible exact H) | (have H2_ := (Option.bind_some _ _).symm.trans H; rw [hy458]; with_reducible exact H2_) | (have H2_ := (Option.bind_some _ _).symm.trans H; with_reducible exact H2_) | with_reducible exact H | (rw [hy458]; exact H) | exact H
  have Ny458 := Aside0.mk hy458
  clear hy458
  obtain ⟨y461, hy461⟩ : ∃ y_ : List (S94), y_ = (([(⟨(⟨#[120]⟩ : ByteArray), 0, 0, 0⟩ : S94), (⟨(⟨#[121]⟩ : ByteArray), 0, 0, 0⟩ : S94)] : List (S94))) := ⟨_, rfl⟩
  replace H : (some (([] : List (S96)), y458, y461, ([] : List (S73)), ([] : List (S111)))) = some (r1, r2, r3, r4, r5) := by first | (rw [hy461]; with_reducible exact H) | (have H2_ := (Option.bind_some _ _).symm.trans H; rw [hy461]; with_reducible exact H2_) | (have H2_ := (Option.bind_some _ _).symm.trans H; with_reducible exact H2_) | with_reducible exact H | (rw [hy461]; exact H) | exact H
  have Ny461 := Aside0.mk hy461
  clear hy461
  simp only [Option.some.injEq, Prod.mk.injEq] at H
  obtain ⟨rfl, rfl, rfl, rfl, rfl⟩ := H
  go_enter Tryd.func55, Tryd.ntmps55
  go_wp2_with (first | ((with_reducible refine gate_dst (N := 0) rfl ?_); refine box_event ?hg (N := 0) ?hd (cs := #[.slice none 0 0, .slice none 0 0, .slice none 0 0, .slice none 0 0, .slice none 0 0]) (t := 27) ?hr ?_; (case hd => rfl); (case hg => rfl); (case hr => first | (go_simp; done) | (go_simp; rfl)); intro gb457 hg w1 hbox hb; have n0_ := Aside0.mk (below_step (by repeat (first | (with_reducible first | exact HB.out | apply below_alloc | apply pw_below_drewN | apply below_drew1) | exact HB.out)) hb); have n1_ := Aside0.mk (hbox); have n2_ := Aside0.mk ((by rw [hg]; exact (below_size (by repeat (first | (with_reducible first | exact HB.out | apply below_alloc | apply pw_below_drewN | apply below_drew1) | exact HB.out))) : w.heap.size ≤ gb457)); have n3_ := Aside0.mk ((by rw [hg]; exact (below_size (by repeat (first | (with_reducible first | exact HB.out | apply below_alloc | apply pw_below_drewN | apply below_drew1) | exact HB.out))) : w.heap.size ≤ gb457)); clear HB; have HB := n0_; have BK457 := n1_; have GW457 := n2_; have GE457 := n3_; clear n0_ n1_ n2_ n3_; clear hb hbox hg) | ((with_reducible refine gate_dst (N := 3) rfl ?_); refine Kd.R_lit k111 _ 111 ?hg (N := 3) ?hd (xs := ([(⟨(⟨#[97]⟩ : ByteArray), 0⟩ : S111), (⟨(⟨#[98]⟩ : ByteArray), 0⟩ : S111)] : List (S111))) (inner := [.string (⟨#[97]⟩ : ByteArray), .int .i64 0, .string (⟨#[98]⟩ : ByteArray), .int .i64 0]) (ok := fun _ => True) (okp := fun _ => True) ?hr ?hp (fun _ hk => hk) trivial (Below.refl _ _) (Nat.le_refl _) (by simp) ?_; (case hd => rfl); (case hg => rfl); (case hr => first | (go_simp; done) | (go_simp; rfl)); (case hp => exact (Reps.c2 (show Kd.M k111 _ _ _ (⟨(⟨#[97]⟩ : ByteArray), 0⟩ : S111) [.string (⟨#[97]⟩ : ByteArray), .int .i64 0] from (k111_mkM _ _ _ (⟨(⟨#[97]⟩ : ByteArray), 0⟩ : S111) )) (Reps.c2 (show Kd.M k111 _ _ _ (⟨(⟨#[98]⟩ : ByteArray), 0⟩ : S111) [.string (⟨#[98]⟩ : ByteArray), .int .i64 0] from (k111_mkM _ _ _ (⟨(⟨#[98]⟩ : ByteArray), 0⟩ : S111) )) (Reps.none _ _)))); intro v459 w2 ho3 hb hg_ hnew_; clear hg_ hnew_; (first | rw [← Ny458.out] at ho3 | (simp only [Int.reduceToNat] at ho3; rw [← Ny458.out] at ho3)); have n0_ := Aside0.mk (Kd.R_lower ho3 (below_size (by repeat (first | (with_reducible first | exact HB.out | apply below_alloc | apply pw_below_drewN | apply below_drew1 | refine below_set ?_ GE457.out) | exact HB.out)))); have n1_ := Aside0.mk (blk_below (g := gb457) (o := .cells #[.slice none 0 0, .slice none 0 0, .slice none 0 0, .slice none 0 0, .slice none 0 0] 27 (0, 0)) (by (with_reducible repeat (first | refine blk_drewN ?_ _ | refine blk_drew ?_ | refine blk_alloc ?_ _)); exact BK457.out) hb); have n2_ := Aside0.mk (below_step (by repeat (first | (with_reducible first | exact HB.out | apply below_alloc | apply pw_below_drewN | apply below_drew1 | refine below_set ?_ GE457.out) | exact HB.out)) hb); clear BK457; clear HB; have HO460 := n0_; have BK457 := n1_; have HB := n2_; clear n0_ n1_ n2_; clear hb ho3) | ((with_reducible refine gate_dst (N := 6) rfl ?_); refine Kd.R_lit k94 _ 94 ?hg (N := 6) ?hd (xs := ([(⟨(⟨#[120]⟩ : ByteArray), 0, 0, 0⟩ : S94), (⟨(⟨#[121]⟩ : ByteArray), 0, 0, 0⟩ : S94)] : List (S94))) (inner := [.string (⟨#[120]⟩ : ByteArray), .int .i64 0, .int .i64 0, .int .i64 0, .string (⟨#[121]⟩ : ByteArray), .int .i64 0, .int .i64 0, .int .i64 0]) (ok := fun _ => True) (okp := fun _ => True) ?hr ?hp (fun _ hk => hk) trivial (Below.refl _ _) (Nat.le_refl _) (by simp) ?_; (case hd => rfl); (case hg => rfl); (case hr => first | (go_simp; done) | (go_simp; rfl)); (case hp => exact (Reps.c4 (show Kd.M k94 _ _ _ (⟨(⟨#[120]⟩ : ByteArray), 0, 0, 0⟩ : S94) [.string (⟨#[120]⟩ : ByteArray), .int .i64 0, .int .i64 0, .int .i64 0] from (k94_mkM _ _ _ (⟨(⟨#[120]⟩ : ByteArray), 0, 0, 0⟩ : S94) )) (Reps.c4 (show Kd.M k94 _ _ _ (⟨(⟨#[121]⟩ : ByteArray), 0, 0, 0⟩ : S94) [.string (⟨#[121]⟩ : ByteArray), .int .i64 0, .int .i64 0, .int .i64 0] from (k94_mkM _ _ _ (⟨(⟨#[121]⟩ : ByteArray), 0, 0, 0⟩ : S94) )) (Reps.none _ _)))); intro v462 w4 ho5 hb hg_ hnew_; clear hg_ hnew_; (first | rw [← Ny461.out] at ho5 | (simp only [Int.reduceToNat] at ho5; rw [← Ny461.out] at ho5)); have n0_ := Aside0.mk (Kd.R_below (by (with_reducible repeat (first | apply Kd.R_alloc | apply Kd.R_drewN | apply Kd.R_drew)); exact HO460.out) hb); have n1_ := Aside0.mk (Kd.R_lower ho5 (below_size (by repeat (first | (with_reducible first | exact HB.out | apply below_alloc | apply pw_below_drewN | apply below_drew1 | refine below_set ?_ GE457.out) | exact HB.out)))); have n2_ := Aside0.mk (blk_below (g := gb457) (o := .cells #[.slice none 0 0, .slice none 0 0, .slice none 0 0, .slice none 0 0, .slice none 0 0] 27 (0, 0)) (by (with_reducible repeat (first | refine blk_drewN ?_ _ | refine blk_drew ?_ | refine blk_alloc ?_ _)); exact BK457.out) hb); have n3_ := Aside0.mk (below_step (by repeat (first | (with_reducible first | exact HB.out | apply below_alloc | apply pw_below_drewN | apply below_drew1 | refine below_set ?_ GE457.out) | exact HB.out)) hb); clear HO460; clear BK457; clear HB; have HO460 := n0_; have HO463 := n1_; have BK457 := n2_; have HB := n3_; clear n0_ n1_ n2_ n3_; clear hb ho5; obtain ⟨Ao6, co6, eo6⟩ := Kd.R_slice HO463.out; subst eo6; obtain ⟨Ao7, co7, eo7⟩ := Kd.R_slice HO460.out; subst eo7; have hcz8_0 : w4.cell? ⟨gb457, 0, none⟩ = some (.slice none 0 0) := (blk_cell BK457.out 0).trans rfl; have hcz8_1 : w4.cell? ⟨gb457, 1, none⟩ = some (.slice none 0 0) := (blk_cell BK457.out 1).trans rfl; have hcz8_2 : w4.cell? ⟨gb457, 2, none⟩ = some (.slice none 0 0) := (blk_cell BK457.out 2).trans rfl; have hcz8_3 : w4.cell? ⟨gb457, 3, none⟩ = some (.slice none 0 0) := (blk_cell BK457.out 3).trans rfl; have hcz8_4 : w4.cell? ⟨gb457, 4, none⟩ = some (.slice none 0 0) := (blk_cell BK457.out 4).trans rfl; have hfz8_0 := blk_frozen BK457.out 0; have hfz8_1 := blk_frozen BK457.out 1; have hfz8_2 := blk_frozen BK457.out 2; have hfz8_3 := blk_frozen BK457.out 3; have hfz8_4 := blk_frozen BK457.out 4))
  refine bodyPost_ret (results_cell_row rfl _ _ gb457 27 #[.slice none 0 0, .slice Ao7 y458.length co7, .slice Ao6 y461.length co6, .slice none 0 0, .slice none 0 0] (0, 0) _ rfl (by (with_reducible repeat (first | refine blk_drewN ?_ _ | refine blk_drew ?_ | refine blk_alloc ?_ _)); refine blk_put (cs := #[.slice none 0 0, .slice Ao7 y458.length co7, .slice Ao6 y461.length co6, .slice none 0 0, .slice none 0 0]) ?_ 4 _ rfl; (with_reducible repeat (first | refine blk_drewN ?_ _ | refine blk_drew ?_ | refine blk_alloc ?_ _)); refine blk_put (cs := #[.slice none 0 0, .slice Ao7 y458.length co7, .slice Ao6 y461.length co6, .slice none 0 0, .slice none 0 0]) ?_ 3 _ rfl; (with_reducible repeat (first | refine blk_drewN ?_ _ | refine blk_drew ?_ | refine blk_alloc ?_ _)); refine blk_put (cs := #[.slice none 0 0, .slice Ao7 y458.length co7, .slice none 0 0, .slice none 0 0, .slice none 0 0]) ?_ 2 _ rfl; (with_reducible repeat (first | refine blk_drewN ?_ _ | refine blk_drew ?_ | refine blk_alloc ?_ _)); refine blk_put (cs := #[.slice none 0 0, .slice none 0 0, .slice none 0 0, .slice none 0 0, .slice none 0 0]) ?_ 1 _ rfl; (with_reducible repeat (first | refine blk_drewN ?_ _ | refine blk_drew ?_ | refine blk_alloc ?_ _)); refine blk_put (cs := #[.slice none 0 0, .slice none 0 0, .slice none 0 0, .slice none 0 0, .slice none 0 0]) ?_ 0 _ rfl; (with_reducible repeat (first | refine blk_drewN ?_ _ | refine blk_drew ?_ | refine blk_alloc ?_ _)); exact BK457.out) Tryd.underlying27 rfl (by kernel_rfl)) rfl ?_
  exact ⟨_, _, _, _, _, by first | rfl | (simp [errW_none, errW_some] <;> rfl) | (simp [*, errW_none, errW_some] <;> rfl), by first | exact Kd.R_nil _ _ _ _ _ | exact Kd.N_nil _ _ _ _ _ | exact Kd.V_nil _ _ _ _ _ | exact Kd.Q_nil _ _ _ _ _ | exact Kd.S_nil _ _ _ _ _, by (with_reducible repeat (first | apply Kd.R_alloc | apply Kd.R_drewN | apply Kd.R_drew)); exact Kd.R_mono (Kd.R_far (p := ⟨gb457, 4, none⟩) (Kd.R_far (p := ⟨gb457, 3, none⟩) (Kd.R_far (p := ⟨gb457, 2, none⟩) (Kd.R_far (p := ⟨gb457, 1, none⟩) (Kd.R_far (p := ⟨gb457, 0, none⟩) (Kd.R_types HO460.out BK457.out (by decide)) (fun _ hk => hk.2) (.slice none 0 0)) (fun _ hk => hk.2) (.slice Ao7 y458.length co7)) (fun _ hk => hk.2) (.slice Ao6 y461.length co6)) (fun _ hk => hk.2) (.slice none 0 0)) (fun _ hk => hk.2) (.slice none 0 0)) (fun _ hk => (by simp [Value.ownBlock])), by (with_reducible repeat (first | apply Kd.R_alloc | apply Kd.R_drewN | apply Kd.R_drew)); exact Kd.R_mono (Kd.R_far (p := ⟨gb457, 4, none⟩) (Kd.R_far (p := ⟨gb457, 3, none⟩) (Kd.R_far (p := ⟨gb457, 2, none⟩) (Kd.R_far (p := ⟨gb457, 1, none⟩) (Kd.R_far (p := ⟨gb457, 0, none⟩) (Kd.R_types HO463.out BK457.out (by decide)) (fun _ hk => hk.2) (.slice none 0 0)) (fun _ hk => hk.2) (.slice Ao7 y458.length co7)) (fun _ hk => hk.2) (.slice Ao6 y461.length co6)) (fun _ hk => hk.2) (.slice none 0 0)) (fun _ hk => hk.2) (.slice none 0 0)) (fun _ hk => trivial), by first | exact Kd.R_nil _ _ _ _ _ | exact Kd.N_nil _ _ _ _ _ | exact Kd.V_nil _ _ _ _ _ | exact Kd.Q_nil _ _ _ _ _ | exact Kd.S_nil _ _ _ _ _, by first | exact Kd.R_nil _ _ _ _ _ | exact Kd.N_nil _ _ _ _ _ | exact Kd.V_nil _ _ _ _ _ | exact Kd.Q_nil _ _ _ _ _ | exact Kd.S_nil _ _ _ _ _, by repeat (first | (with_reducible first | exact HB.out | apply below_alloc | apply pw_below_drewN | apply below_drew1 | refine below_set ?_ GE457.out) | exact HB.out)⟩

/-! ### proofmarklaw27_circ: function 56 -/
def proofmarklaw27_circ.f  : Option (Int × (List (S201)) × (List (S202)) × (List (S98)) × (List (S204))) := some (0, ([] : List (S201)), ([] : List (S202)), (([(⟨0, 0, false, 0, 0⟩ : S98), (⟨0, 0, false, 0, 1⟩ : S98), (⟨0, 0, false, 1, 0⟩ : S98)] : List (S98))), ([] : List (S204)))
set_option maxHeartbeats 8000000 in
set_option maxRecDepth 100000 in
theorem proofmarklaw27_circ.calls  (r1 : Int) (r2 : List (S201)) (r3 : List (S202)) (r4 : List (S98)) (r5 : List (S204)) (w : World) (h : proofmarklaw27_circ.f  = some (r1, r2, r3, r4, r5)) :
    Calls Tryd.prog 56 #[] w fun e w' => ∃ v1_ v2_ v3_ v4_ : Value, e = .returned (.agg #[.int .i64 r1, v1_, v2_, v3_, v4_]) ∧ Kd.R k201 201 w' w.heap.size (fun _ => True) v1_ r2 ∧ Kd.R k202 202 w' w.heap.size (fun _ => True) v2_ r3 ∧ Kd.R k98 98 w' w.heap.size (fun _ => True) v3_ r4 ∧ Kd.R k204 204 w' w.heap.size (fun _ => True) v4_ r5 ∧ Below w.heap.size w w' := by
  have hu53 := Tryd.underlying53
  have hu98 := Tryd.underlying98
  have HB := Aside0.mk (Below.refl w.heap.size w)
  have H : (some (0, ([] : List (S201)), ([] : List (S202)), (([(⟨0, 0, false, 0, 0⟩ : S98), (⟨0, 0, false, 0, 1⟩ : S98), (⟨0, 0, false, 1, 0⟩ : S98)] : List (S98))), ([] : List (S204)))) = some (r1, r2, r3, r4, r5) := h
  clear h
  obtain ⟨y465, hy465⟩ : ∃ y_ : List (S98), y_ = (([(⟨0, 0, false, 0, 0⟩ : S98), (⟨0, 0, false, 0, 1⟩ : S98), (⟨0, 0, false, 1, 0⟩ : S98)] : List (S98))) := ⟨_, rfl⟩
  replace H : (some (0, ([] : List (S201)), ([] : List (S202)), y465, ([] : List (S204)))) = some (r1, r2, r3, r4, r5) := by first | (rw [hy465]; with_reducible exact H) | (have H2_ := (Option.bind_some _ _).symm.trans H; rw [hy465]; with_reducible exact H2_) | (have H2_ := (Option.bind_some _ _).symm.trans H; with_reducible exact H2_) | with_reducible exact H | (rw [hy465]; exact H) | exact H
  have Ny465 := Aside0.mk hy465
  clear hy465
  simp only [Option.some.injEq, Prod.mk.injEq] at H
  obtain ⟨rfl, rfl, rfl, rfl, rfl⟩ := H
  go_enter Tryd.func56, Tryd.ntmps56
  go_wp2_with (first | ((with_reducible refine gate_dst (N := 0) rfl ?_); refine box_event ?hg (N := 0) ?hd (cs := #[.int .i64 0, .slice none 0 0, .slice none 0 0, .slice none 0 0, .slice none 0 0]) (t := 53) ?hr ?_; (case hd => rfl); (case hg => rfl); (case hr => first | (go_simp; done) | (go_simp; rfl)); intro gb464 hg w1 hbox hb; have n0_ := Aside0.mk (below_step (by repeat (first | (with_reducible first | exact HB.out | apply below_alloc | apply pw_below_drewN | apply below_drew1) | exact HB.out)) hb); have n1_ := Aside0.mk (hbox); have n2_ := Aside0.mk ((by rw [hg]; exact (below_size (by repeat (first | (with_reducible first | exact HB.out | apply below_alloc | apply pw_below_drewN | apply below_drew1) | exact HB.out))) : w.heap.size ≤ gb464)); have n3_ := Aside0.mk ((by rw [hg]; exact (below_size (by repeat (first | (with_reducible first | exact HB.out | apply below_alloc | apply pw_below_drewN | apply below_drew1) | exact HB.out))) : w.heap.size ≤ gb464)); clear HB; have HB := n0_; have BK464 := n1_; have GW464 := n2_; have GE464 := n3_; clear n0_ n1_ n2_ n3_; clear hb hbox hg) | ((with_reducible refine gate_dst (N := 4) rfl ?_); refine Kd.R_lit k98 _ 98 ?hg (N := 4) ?hd (xs := ([(⟨0, 0, false, 0, 0⟩ : S98), (⟨0, 0, false, 0, 1⟩ : S98), (⟨0, 0, false, 1, 0⟩ : S98)] : List (S98))) (inner := [.int .i64 0, .int .i64 0, .bool false, .int .i64 0, .int .i64 0, .int .i64 0, .int .i64 0, .bool false, .int .i64 0, .int .i64 1, .int .i64 0, .int .i64 0, .bool false, .int .i64 1, .int .i64 0]) (ok := fun _ => True) (okp := fun _ => True) ?hr ?hp (fun _ hk => hk) trivial (Below.refl _ _) (Nat.le_refl _) (by simp) ?_; (case hd => rfl); (case hg => rfl); (case hr => first | (go_simp; done) | (go_simp; rfl)); (case hp => exact (Reps.c5 (show Kd.M k98 _ _ _ (⟨0, 0, false, 0, 0⟩ : S98) [.int .i64 0, .int .i64 0, .bool false, .int .i64 0, .int .i64 0] from (k98_mkM _ _ _ (⟨0, 0, false, 0, 0⟩ : S98) )) (Reps.c5 (show Kd.M k98 _ _ _ (⟨0, 0, false, 0, 1⟩ : S98) [.int .i64 0, .int .i64 0, .bool false, .int .i64 0, .int .i64 1] from (k98_mkM _ _ _ (⟨0, 0, false, 0, 1⟩ : S98) )) (Reps.c5 (show Kd.M k98 _ _ _ (⟨0, 0, false, 1, 0⟩ : S98) [.int .i64 0, .int .i64 0, .bool false, .int .i64 1, .int .i64 0] from (k98_mkM _ _ _ (⟨0, 0, false, 1, 0⟩ : S98) )) (Reps.none _ _))))); intro v466 w2 ho3 hb hg_ hnew_; clear hg_ hnew_; (first | rw [← Ny465.out] at ho3 | (simp only [Int.reduceToNat] at ho3; rw [← Ny465.out] at ho3)); have n0_ := Aside0.mk (Kd.R_lower ho3 (below_size (by repeat (first | (with_reducible first | exact HB.out | apply below_alloc | apply pw_below_drewN | apply below_drew1 | refine below_set ?_ GE464.out) | exact HB.out)))); have n1_ := Aside0.mk (blk_below (g := gb464) (o := .cells #[.int .i64 0, .slice none 0 0, .slice none 0 0, .slice none 0 0, .slice none 0 0] 53 (0, 0)) (by (with_reducible repeat (first | refine blk_drewN ?_ _ | refine blk_drew ?_ | refine blk_alloc ?_ _)); exact BK464.out) hb); have n2_ := Aside0.mk (below_step (by repeat (first | (with_reducible first | exact HB.out | apply below_alloc | apply pw_below_drewN | apply below_drew1 | refine below_set ?_ GE464.out) | exact HB.out)) hb); clear BK464; clear HB; have HO467 := n0_; have BK464 := n1_; have HB := n2_; clear n0_ n1_ n2_; clear hb ho3; obtain ⟨Ao4, co4, eo4⟩ := Kd.R_slice HO467.out; subst eo4; have hcz5_0 : w2.cell? ⟨gb464, 0, none⟩ = some (.int .i64 0) := (blk_cell BK464.out 0).trans rfl; have hcz5_1 : w2.cell? ⟨gb464, 1, none⟩ = some (.slice none 0 0) := (blk_cell BK464.out 1).trans rfl; have hcz5_2 : w2.cell? ⟨gb464, 2, none⟩ = some (.slice none 0 0) := (blk_cell BK464.out 2).trans rfl; have hcz5_3 : w2.cell? ⟨gb464, 3, none⟩ = some (.slice none 0 0) := (blk_cell BK464.out 3).trans rfl; have hcz5_4 : w2.cell? ⟨gb464, 4, none⟩ = some (.slice none 0 0) := (blk_cell BK464.out 4).trans rfl; have hfz5_0 := blk_frozen BK464.out 0; have hfz5_1 := blk_frozen BK464.out 1; have hfz5_2 := blk_frozen BK464.out 2; have hfz5_3 := blk_frozen BK464.out 3; have hfz5_4 := blk_frozen BK464.out 4))
  refine bodyPost_ret (results_cell_row rfl _ _ gb464 53 #[.int .i64 0, .slice none 0 0, .slice none 0 0, .slice Ao4 y465.length co4, .slice none 0 0] (0, 0) _ rfl (by (with_reducible repeat (first | refine blk_drewN ?_ _ | refine blk_drew ?_ | refine blk_alloc ?_ _)); refine blk_put (cs := #[.int .i64 0, .slice none 0 0, .slice none 0 0, .slice Ao4 y465.length co4, .slice none 0 0]) ?_ 4 _ rfl; (with_reducible repeat (first | refine blk_drewN ?_ _ | refine blk_drew ?_ | refine blk_alloc ?_ _)); refine blk_put (cs := #[.int .i64 0, .slice none 0 0, .slice none 0 0, .slice none 0 0, .slice none 0 0]) ?_ 3 _ rfl; (with_reducible repeat (first | refine blk_drewN ?_ _ | refine blk_drew ?_ | refine blk_alloc ?_ _)); refine blk_put (cs := #[.int .i64 0, .slice none 0 0, .slice none 0 0, .slice none 0 0, .slice none 0 0]) ?_ 2 _ rfl; (with_reducible repeat (first | refine blk_drewN ?_ _ | refine blk_drew ?_ | refine blk_alloc ?_ _)); refine blk_put (cs := #[.int .i64 0, .slice none 0 0, .slice none 0 0, .slice none 0 0, .slice none 0 0]) ?_ 1 _ rfl; (with_reducible repeat (first | refine blk_drewN ?_ _ | refine blk_drew ?_ | refine blk_alloc ?_ _)); refine blk_put (cs := #[.int .i64 0, .slice none 0 0, .slice none 0 0, .slice none 0 0, .slice none 0 0]) ?_ 0 _ rfl; (with_reducible repeat (first | refine blk_drewN ?_ _ | refine blk_drew ?_ | refine blk_alloc ?_ _)); exact BK464.out) Tryd.underlying53 rfl (by kernel_rfl)) rfl ?_
  exact ⟨_, _, _, _, by first | rfl | (simp [errW_none, errW_some] <;> rfl) | (simp [*, errW_none, errW_some] <;> rfl), by first | exact Kd.R_nil _ _ _ _ _ | exact Kd.N_nil _ _ _ _ _ | exact Kd.V_nil _ _ _ _ _ | exact Kd.Q_nil _ _ _ _ _ | exact Kd.S_nil _ _ _ _ _, by first | exact Kd.R_nil _ _ _ _ _ | exact Kd.N_nil _ _ _ _ _ | exact Kd.V_nil _ _ _ _ _ | exact Kd.Q_nil _ _ _ _ _ | exact Kd.S_nil _ _ _ _ _, by (with_reducible repeat (first | apply Kd.R_alloc | apply Kd.R_drewN | apply Kd.R_drew)); exact Kd.R_mono (Kd.R_far (p := ⟨gb464, 4, none⟩) (Kd.R_far (p := ⟨gb464, 3, none⟩) (Kd.R_far (p := ⟨gb464, 2, none⟩) (Kd.R_far (p := ⟨gb464, 1, none⟩) (Kd.R_far (p := ⟨gb464, 0, none⟩) (Kd.R_types HO467.out BK464.out (by decide)) (fun _ hk => hk.2) (.int .i64 0)) (fun _ hk => hk.2) (.slice none 0 0)) (fun _ hk => hk.2) (.slice none 0 0)) (fun _ hk => hk.2) (.slice Ao4 y465.length co4)) (fun _ hk => hk.2) (.slice none 0 0)) (fun _ hk => trivial), by first | exact Kd.R_nil _ _ _ _ _ | exact Kd.N_nil _ _ _ _ _ | exact Kd.V_nil _ _ _ _ _ | exact Kd.Q_nil _ _ _ _ _ | exact Kd.S_nil _ _ _ _ _, by repeat (first | (with_reducible first | exact HB.out | apply below_alloc | apply pw_below_drewN | apply below_drew1 | refine below_set ?_ GE464.out) | exact HB.out)⟩

-- NOT PRINTED: function 26 (proofmarklaw27_head)

/-! ### proofmarkref27_Latches: function 57 -/
def proofmarkref27_Latches.f (a0_0 : Int) (l0_1 : List (S201)) (l0_2 : List (S202)) (l0_3 : List (S98)) (l0_4 : List (S204)) : Option (Int × (List (S201)) × (List (S202)) × (List (S98)) × (List (S204))) := (some (([] : List (S98)) : List (S98))).bind fun y736 => (if 0 ≤ (mn (l0_3.length : Int) 40) then (if (mn (l0_3.length : Int) 40) ≤ (l0_3.length : Int) then ((some (l0_3.take ((mn (l0_3.length : Int) 40) : Int).toNat : List (S98))).bind fun y739 => (if y736.length + y739.length < 3518437208883 then (some (0, ([] : List (S201)), ([] : List (S202)), (y736 ++ y739), ([] : List (S204)))) else (none))) else (none)) else (none))
set_option maxHeartbeats 8000000 in
set_option maxRecDepth 100000 in
theorem proofmarkref27_Latches.calls (a0_0 : Int) (A0_1 : Option Addr) (c0_1 : Nat) (l0_1 : List (S201)) (A0_2 : Option Addr) (c0_2 : Nat) (l0_2 : List (S202)) (A0_3 : Option Addr) (c0_3 : Nat) (l0_3 : List (S98)) (A0_4 : Option Addr) (c0_4 : Nat) (l0_4 : List (S204)) (r1 : Int) (r2 : List (S201)) (r3 : List (S202)) (r4 : List (S98)) (r5 : List (S204)) (w : World) (hr0_1 : Kd.C k201 w A0_1 l0_1.length l0_1) (hc0_1 : l0_1.length ≤ c0_1) (hr0_2 : Kd.C k202 w A0_2 l0_2.length l0_2) (hc0_2 : l0_2.length ≤ c0_2) (hr0_3 : Kd.C k98 w A0_3 l0_3.length l0_3) (hc0_3 : l0_3.length ≤ c0_3) (hr0_4 : Kd.C k204 w A0_4 l0_4.length l0_4) (hc0_4 : l0_4.length ≤ c0_4) (h : proofmarkref27_Latches.f a0_0 l0_1 l0_2 l0_3 l0_4 = some (r1, r2, r3, r4, r5)) :
    Calls Tryd.prog 57 #[.agg #[.int .i64 a0_0, .slice A0_1 l0_1.length c0_1, .slice A0_2 l0_2.length c0_2, .slice A0_3 l0_3.length c0_3, .slice A0_4 l0_4.length c0_4]] w fun e w' => ∃ v1_ v2_ v3_ v4_ : Value, e = .returned (.agg #[.int .i64 r1, v1_, v2_, v3_, v4_]) ∧ Kd.R k201 201 w' w.heap.size (fun _ => True) v1_ r2 ∧ Kd.R k202 202 w' w.heap.size (fun _ => True) v2_ r3 ∧ Kd.R k98 98 w' w.heap.size (fun _ => True) v3_ r4 ∧ Kd.R k204 204 w' w.heap.size (fun _ => True) v4_ r5 ∧ Below w.heap.size w w' := by
  have hu53 := Tryd.underlying53
  have HR0_1 := Aside0.mk hr0_1
  have HC0_1 := Aside0.mk hc0_1
  clear hr0_1 hc0_1
  have HR0_2 := Aside0.mk hr0_2
  have HC0_2 := Aside0.mk hc0_2
  clear hr0_2 hc0_2
  have HR0_3 := Aside0.mk hr0_3
  have HC0_3 := Aside0.mk hc0_3
  clear hr0_3 hc0_3
  have HR0_4 := Aside0.mk hr0_4
  have HC0_4 := Aside0.mk hc0_4
  clear hr0_4 hc0_4
  have HB := Aside0.mk (Below.refl w.heap.size w)
  have H : ((some (([] : List (S98)) : List (S98))).bind fun y736 => (if 0 ≤ (mn (l0_3.length : Int) 40) then (if (mn (l0_3.length : Int) 40) ≤ (l0_3.length : Int) then ((some (l0_3.take ((mn (l0_3.length : Int) 40) : Int).toNat : List (S98))).bind fun y739 => (if y736.length + y739.length < 3518437208883 then (some (0, ([] : List (S201)), ([] : List (S202)), (y736 ++ y739), ([] : List (S204)))) else (none))) else (none)) else (none))) = some (r1, r2, r3, r4, r5) := h
  clear h
  obtain ⟨y736, hy736⟩ : ∃ y_ : List (S98), y_ = (([] : List (S98))) := ⟨_, rfl⟩
  replace H : (if 0 ≤ (mn (l0_3.length : Int) 40) then (if (mn (l0_3.length : Int) 40) ≤ (l0_3.length : Int) then ((some (l0_3.take ((mn (l0_3.length : Int) 40) : Int).toNat : List (S98))).bind fun y739 => (if y736.length + y739.length < 3518437208883 then (some (0, ([] : List (S201)), ([] : List (S202)), (y736 ++ y739), ([] : List (S204)))) else (none))) else (none)) else (none)) = some (r1, r2, r3, r4, r5) := by first | (rw [hy736]; with_reducible exact H) | (have H2_ := (Option.bind_some _ _).symm.trans H; rw [hy736]; with_reducible exact H2_) | (have H2_ := (Option.bind_some _ _).symm.trans H; with_reducible exact H2_) | with_reducible exact H | (rw [hy736]; exact H) | exact H
  have Ny736 := Aside0.mk hy736
  clear hy736
  obtain ⟨ji2, hji2⟩ : ∃ j_ : Int, (mn (l0_3.length : Int) 40) = j_ := ⟨_, rfl⟩
  replace H : (if 0 ≤ (ji2) then (if (ji2) ≤ (l0_3.length : Int) then ((some (l0_3.take ((ji2) : Int).toNat : List (S98))).bind fun y739 => (if y736.length + y739.length < 3518437208883 then (some (0, ([] : List (S201)), ([] : List (S202)), (y736 ++ y739), ([] : List (S204)))) else (none))) else (none)) else (none)) = some (r1, r2, r3, r4, r5) := by first | (rw [hji2] at H; exact H) | (simp only [hji2] at H ⊢; exact H)
  (try (have hji2h : ji2 ≤ 40 := by (rw [← hji2]; unfold mn; (repeat' split) <;> omega)))
  (try (have hji2g : ji2 ≤ 64 := by omega))
  (try (have hji2l : 0 ≤ ji2 := by (rw [← hji2]; unfold mn; (repeat' split) <;> omega)))
  (try (have hji2m : 0 ≤ ji2 := by omega))
  have hji2_ : (if 40 < (l0_3.length : Int) then 40 else (l0_3.length : Int)) = ji2 := hji2
  by_cases c3 : 0 ≤ (ji2)
  · rw [if_pos c3] at H
    have c3b0 := eq_true c3
    have c3b1 : decide (0 ≤ (ji2)) = true := decide_eq_true c3
    clear c3
    by_cases c4 : (ji2) ≤ (l0_3.length : Int)
    · rw [if_pos c4] at H
      have c4b0 := eq_true c4
      have c4b1 : decide ((ji2) ≤ (l0_3.length : Int)) = true := decide_eq_true c4
      clear c4
      obtain ⟨y739, hy739⟩ : ∃ y_ : List (S98), y_ = (l0_3.take ((ji2) : Int).toNat) := ⟨_, rfl⟩
      replace H : (if y736.length + y739.length < 3518437208883 then (some (0, ([] : List (S201)), ([] : List (S202)), (y736 ++ y739), ([] : List (S204)))) else (none)) = some (r1, r2, r3, r4, r5) := by first | (rw [hy739]; with_reducible exact H) | (have H2_ := (Option.bind_some _ _).symm.trans H; rw [hy739]; with_reducible exact H2_) | (have H2_ := (Option.bind_some _ _).symm.trans H; with_reducible exact H2_) | with_reducible exact H | (rw [hy739]; exact H) | exact H
      have Ny739 := Aside0.mk hy739
      clear hy739
      by_cases c5 : y736.length + y739.length < 3518437208883
      · rw [if_pos c5] at H
        have LMc5 := Aside0.mk c5
        clear c5
        obtain ⟨y743, hy743⟩ : ∃ y_ : List (S98), y_ = (y736 ++ y739) := ⟨_, rfl⟩
        replace H : (some (0, ([] : List (S201)), ([] : List (S202)), y743, ([] : List (S204)))) = some (r1, r2, r3, r4, r5) := by first | (rw [hy743]; with_reducible exact H) | (have H2_ := (Option.bind_some _ _).symm.trans H; rw [hy743]; with_reducible exact H2_) | (have H2_ := (Option.bind_some _ _).symm.trans H; with_reducible exact H2_) | with_reducible exact H | (rw [hy743]; exact H) | exact H
        have Ny743 := Aside0.mk hy743
        clear hy743
        simp only [Option.some.injEq, Prod.mk.injEq] at H
        obtain ⟨rfl, rfl, rfl, rfl, rfl⟩ := H
        go_enter Tryd.func57, Tryd.ntmps57
        go_wp2_with (first | ((with_reducible refine gate_dst (N := 1) rfl ?_); refine box_event ?hg (N := 1) ?hd (cs := #[.int .i64 a0_0, .slice A0_1 l0_1.length c0_1, .slice A0_2 l0_2.length c0_2, .slice A0_3 l0_3.length c0_3, .slice A0_4 l0_4.length c0_4]) (t := 53) ?hr ?_; (case hd => rfl); (case hg => rfl); (case hr => first | (go_simp; done) | (go_simp; rfl)); intro gb734 hg w6 hbox hb; have n0_ := Aside0.mk (below_step (by repeat (first | (with_reducible first | exact HB.out | apply below_alloc | apply pw_below_drewN | apply below_drew1) | exact HB.out)) hb); have n1_ := Aside0.mk (hbox); have n2_ := Aside0.mk ((by rw [hg]; exact (below_size (by repeat (first | (with_reducible first | exact HB.out | apply below_alloc | apply pw_below_drewN | apply below_drew1) | exact HB.out))) : w.heap.size ≤ gb734)); have n3_ := Aside0.mk ((by rw [hg]; exact (below_size (by repeat (first | (with_reducible first | exact HB.out | apply below_alloc | apply pw_below_drewN | apply below_drew1) | exact HB.out))) : w.heap.size ≤ gb734)); clear HB; have HB := n0_; have BK734 := n1_; have GW734 := n2_; have GE734 := n3_; clear n0_ n1_ n2_ n3_; clear hb hbox hg) | ((with_reducible refine gate_dst (N := 2) rfl ?_); refine box_event ?hg (N := 2) ?hd (cs := #[.int .i64 0, .slice none 0 0, .slice none 0 0, .slice none 0 0, .slice none 0 0]) (t := 53) ?hr ?_; (case hd => rfl); (case hg => rfl); (case hr => first | (go_simp; done) | (go_simp; rfl)); intro gb735 hg w7 hbox hb; have n0_ := Aside0.mk (blk_below (g := gb734) (o := .cells #[.int .i64 a0_0, .slice A0_1 l0_1.length c0_1, .slice A0_2 l0_2.length c0_2, .slice A0_3 l0_3.length c0_3, .slice A0_4 l0_4.length c0_4] 53 (0, 0)) (by (with_reducible repeat (first | refine blk_drewN ?_ _ | refine blk_drew ?_ | refine blk_alloc ?_ _)); exact BK734.out) hb); have n1_ := Aside0.mk (below_step (by repeat (first | (with_reducible first | exact HB.out | apply below_alloc | apply pw_below_drewN | apply below_drew1 | refine below_set ?_ GE734.out) | exact HB.out)) hb); have n2_ := Aside0.mk (hbox); have n3_ := Aside0.mk ((by rw [hg]; exact (below_size (by repeat (first | (with_reducible first | exact HB.out | apply below_alloc | apply pw_below_drewN | apply below_drew1 | refine below_set ?_ GE734.out) | exact HB.out))) : w.heap.size ≤ gb735)); have n4_ := Aside0.mk ((by rw [hg]; exact (below_size (by repeat (first | (with_reducible first | exact HB.out | apply below_alloc | apply pw_below_drewN | apply below_drew1 | refine below_set ?_ GE734.out) | exact HB.out))) : w.heap.size ≤ gb735)); have n5_ := Aside0.mk ((by rw [hg]; exact Nat.ne_of_lt (blk_lt (g := gb734) (o := .cells #[.int .i64 a0_0, .slice A0_1 l0_1.length c0_1, .slice A0_2 l0_2.length c0_2, .slice A0_3 l0_3.length c0_3, .slice A0_4 l0_4.length c0_4] 53 (0, 0)) (by (with_reducible repeat (first | refine blk_drewN ?_ _ | refine blk_drew ?_ | refine blk_alloc ?_ _)); exact BK734.out)) : gb734 ≠ gb735)); have n6_ := Aside0.mk ((by rw [hg]; exact Nat.ne_of_gt (blk_lt (g := gb734) (o := .cells #[.int .i64 a0_0, .slice A0_1 l0_1.length c0_1, .slice A0_2 l0_2.length c0_2, .slice A0_3 l0_3.length c0_3, .slice A0_4 l0_4.length c0_4] 53 (0, 0)) (by (with_reducible repeat (first | refine blk_drewN ?_ _ | refine blk_drew ?_ | refine blk_alloc ?_ _)); exact BK734.out)) : gb735 ≠ gb734)); clear BK734; clear HB; have BK734 := n0_; have HB := n1_; have BK735 := n2_; have GW735 := n3_; have GE735 := n4_; have NB734_735 := n5_; have NB735_734 := n6_; clear n0_ n1_ n2_ n3_ n4_ n5_ n6_; clear hb hbox hg) | ((with_reducible refine gate_dst (N := 3) rfl ?_); refine Kd.R_lit k98 _ 98 ?hg (N := 3) ?hd (xs := ([] : List (S98))) (inner := []) (ok := fun _ => True) (okp := fun _ => True) ?hr ?hp (fun _ hk => hk) trivial (Below.refl _ _) (Nat.le_refl _) (by simp) ?_; (case hd => rfl); (case hg => rfl); (case hr => first | (go_simp; done) | (go_simp; rfl)); (case hp => exact (Reps.none _ _)); intro v737 w8 ho9 hb hg_ hnew_; clear hg_ hnew_; (first | rw [← Ny736.out] at ho9 | (simp only [Int.reduceToNat] at ho9; rw [← Ny736.out] at ho9)); have n0_ := Aside0.mk (Kd.R_lower ho9 (below_size (by repeat (first | (with_reducible first | exact HB.out | apply below_alloc | apply pw_below_drewN | apply below_drew1 | refine below_set ?_ GE734.out | refine below_set ?_ GE735.out) | exact HB.out)))); have n1_ := Aside0.mk (blk_below (g := gb734) (o := .cells #[.int .i64 a0_0, .slice A0_1 l0_1.length c0_1, .slice A0_2 l0_2.length c0_2, .slice A0_3 l0_3.length c0_3, .slice A0_4 l0_4.length c0_4] 53 (0, 0)) (by (with_reducible repeat (first | refine blk_drewN ?_ _ | refine blk_drew ?_ | refine blk_alloc ?_ _)); exact BK734.out) hb); have n2_ := Aside0.mk (blk_below (g := gb735) (o := .cells #[.int .i64 0, .slice none 0 0, .slice none 0 0, .slice none 0 0, .slice none 0 0] 53 (0, 0)) (by (with_reducible repeat (first | refine blk_drewN ?_ _ | refine blk_drew ?_ | refine blk_alloc ?_ _)); exact BK735.out) hb); have n3_ := Aside0.mk (below_step (by repeat (first | (with_reducible first | exact HB.out | apply below_alloc | apply pw_below_drewN | apply below_drew1 | refine below_set ?_ GE734.out | refine below_set ?_ GE735.out) | exact HB.out)) hb); clear BK734; clear BK735; clear HB; have HO738 := n0_; have BK734 := n1_; have BK735 := n2_; have HB := n3_; clear n0_ n1_ n2_ n3_; clear hb ho9; have hnb10 := NB734_735.out; have hnc10 := NB735_734.out; have hcz11_0 : w8.cell? ⟨gb734, 0, none⟩ = some (.int .i64 a0_0) := (blk_cell BK734.out 0).trans rfl; have hcz11_1 : w8.cell? ⟨gb734, 1, none⟩ = some (.slice A0_1 l0_1.length c0_1) := (blk_cell BK734.out 1).trans rfl; have hcz11_2 : w8.cell? ⟨gb734, 2, none⟩ = some (.slice A0_2 l0_2.length c0_2) := (blk_cell BK734.out 2).trans rfl; have hcz11_3 : w8.cell? ⟨gb734, 3, none⟩ = some (.slice A0_3 l0_3.length c0_3) := (blk_cell BK734.out 3).trans rfl; have hcz11_4 : w8.cell? ⟨gb734, 4, none⟩ = some (.slice A0_4 l0_4.length c0_4) := (blk_cell BK734.out 4).trans rfl; have hfz11_0 := blk_frozen BK734.out 0; have hfz11_1 := blk_frozen BK734.out 1; have hfz11_2 := blk_frozen BK734.out 2; have hfz11_3 := blk_frozen BK734.out 3; have hfz11_4 := blk_frozen BK734.out 4; have q12 : ((ji2) : Int) ≤ ((l0_3.length : Int) : Int) := of_decide_eq_true (by first | (with_reducible assumption) | assumption); obtain ⟨i012, hi012, _, hsz12, _⟩ := info_parts info98; have hroom12 : l0_3.length ≤ c0_3 := HC0_3.out; have hC12 : Kd.C k98 _ A0_3 l0_3.length l0_3 := HR0_3.out; have hcut12 := cut_to (P := Tryd.prog) 50 98 .i64 Tryd.underlying50 hi012 A0_3 l0_3.length c0_3 (ji2) (of_decide_eq_true (by first | (with_reducible assumption) | assumption)) q12 hroom12; have hr12 := Kd.C_take (m := ((ji2) : Int).toNat) hC12 (by omega); have hy12 : y739.length = ((ji2) : Int).toNat := (by rw [Ny739.out, List.length_take]; omega); rw [← Ny739.out] at hr12; rw [← hy12] at hcut12; have HR742 := Aside0.mk hr12; have HC742 := Aside0.mk (show y739.length ≤ c0_3 from by omega); clear hr12 hC12 hroom12 hi012 hsz12; have KY12 := Aside0.mk hy12; clear hy12; replace q12 := eq_true q12) | ((with_reducible refine gate_builtin (b := .append) (xs := #[.tmp 3, .tmp 10]) rfl ?_); at_builtin; refine Kd.R_append_rows k98 (w0 := w) w.heap.size rfl (.tmp 3) (.tmp 10) 50 98 (.agg #[(.int .i64 0), (.int .i64 0), (.bool false), (.int .i64 0), (.int .i64 0)]) 40 rfl Tryd.underlying50 info98 rfl (by decide) (by omega) v737 y736 y739 _ _ _ (fun _ => True) (fun _ => False) rfl rfl ?aO ?aR (fun _ _ h => h) (fun _ h => h.elim) ?aF ?aB ?aS ?aL ?_; (case aR => repeat (first | exact (Kd.C_below HR742.out HB.out) | (with_reducible refine Kd.C_alloc ?_ _) | (with_reducible refine Kd.C_drewN ?_ _) | (with_reducible refine Kd.C_drew ?_))); (case aB => exact (by repeat (first | (with_reducible first | exact HB.out | apply below_alloc | apply pw_below_drewN | apply below_drew1 | refine below_set ?_ GE734.out | refine below_set ?_ GE735.out) | exact HB.out))); (case aF => exact (fun _ _ => trivial)); (case aO => exact (by (with_reducible repeat (first | apply Kd.R_alloc | apply Kd.R_drewN | apply Kd.R_drew)); exact HO738.out)); (case aS => exact (below_size (by repeat (first | (with_reducible first | exact HB.out | apply below_alloc | apply pw_below_drewN | apply below_drew1 | refine below_set ?_ GE734.out | refine below_set ?_ GE735.out) | exact HB.out)))); (case aL => have := LMc5.out; omega); intro v744 w13 ho hb hg hat; rw [← Ny743.out] at ho; have n0_ := Aside0.mk (blk_grown (g := gb734) (o := .cells #[.int .i64 a0_0, .slice A0_1 l0_1.length c0_1, .slice A0_2 l0_2.length c0_2, .slice A0_3 l0_3.length c0_3, .slice A0_4 l0_4.length c0_4] 53 (0, 0)) (by (with_reducible repeat (first | refine blk_drewN ?_ _ | refine blk_drew ?_ | refine blk_alloc ?_ _)); exact BK734.out) hg (Kd.R_ne HO738.out BK734.out (by decide))); have n1_ := Aside0.mk (blk_grown (g := gb735) (o := .cells #[.int .i64 0, .slice none 0 0, .slice none 0 0, .slice none 0 0, .slice none 0 0] 53 (0, 0)) (by (with_reducible repeat (first | refine blk_drewN ?_ _ | refine blk_drew ?_ | refine blk_alloc ?_ _)); exact BK735.out) hg (Kd.R_ne HO738.out BK735.out (by decide))); have n2_ := Aside0.mk (hb); have n3_ := Aside0.mk (ho); clear BK734; clear BK735; clear HB; clear HO738; have BK734 := n0_; have BK735 := n1_; have HB := n2_; have HO745 := n3_; clear n0_ n1_ n2_ n3_; clear ho hb hg hat; obtain ⟨Ao14, co14, eo14⟩ := Kd.R_slice HO745.out; subst eo14; have hcz15_0 : w13.cell? ⟨gb735, 0, none⟩ = some (.int .i64 0) := (blk_cell BK735.out 0).trans rfl; have hcz15_1 : w13.cell? ⟨gb735, 1, none⟩ = some (.slice none 0 0) := (blk_cell BK735.out 1).trans rfl; have hcz15_2 : w13.cell? ⟨gb735, 2, none⟩ = some (.slice none 0 0) := (blk_cell BK735.out 2).trans rfl; have hcz15_3 : w13.cell? ⟨gb735, 3, none⟩ = some (.slice none 0 0) := (blk_cell BK735.out 3).trans rfl; have hcz15_4 : w13.cell? ⟨gb735, 4, none⟩ = some (.slice none 0 0) := (blk_cell BK735.out 4).trans rfl; have hfz15_0 := blk_frozen BK735.out 0; have hfz15_1 := blk_frozen BK735.out 1; have hfz15_2 := blk_frozen BK735.out 2; have hfz15_3 := blk_frozen BK735.out 3; have hfz15_4 := blk_frozen BK735.out 4))
        refine bodyPost_ret (results_cell_row rfl _ _ gb735 53 #[.int .i64 0, .slice none 0 0, .slice none 0 0, .slice Ao14 y743.length co14, .slice none 0 0] (0, 0) _ rfl (by (with_reducible repeat (first | refine blk_drewN ?_ _ | refine blk_drew ?_ | refine blk_alloc ?_ _)); refine blk_put (cs := #[.int .i64 0, .slice none 0 0, .slice none 0 0, .slice Ao14 y743.length co14, .slice none 0 0]) ?_ 4 _ rfl; (with_reducible repeat (first | refine blk_drewN ?_ _ | refine blk_drew ?_ | refine blk_alloc ?_ _)); refine blk_put (cs := #[.int .i64 0, .slice none 0 0, .slice none 0 0, .slice none 0 0, .slice none 0 0]) ?_ 3 _ rfl; (with_reducible repeat (first | refine blk_drewN ?_ _ | refine blk_drew ?_ | refine blk_alloc ?_ _)); refine blk_put (cs := #[.int .i64 0, .slice none 0 0, .slice none 0 0, .slice none 0 0, .slice none 0 0]) ?_ 2 _ rfl; (with_reducible repeat (first | refine blk_drewN ?_ _ | refine blk_drew ?_ | refine blk_alloc ?_ _)); refine blk_put (cs := #[.int .i64 0, .slice none 0 0, .slice none 0 0, .slice none 0 0, .slice none 0 0]) ?_ 1 _ rfl; (with_reducible repeat (first | refine blk_drewN ?_ _ | refine blk_drew ?_ | refine blk_alloc ?_ _)); refine blk_put (cs := #[.int .i64 0, .slice none 0 0, .slice none 0 0, .slice none 0 0, .slice none 0 0]) ?_ 0 _ rfl; (with_reducible repeat (first | refine blk_drewN ?_ _ | refine blk_drew ?_ | refine blk_alloc ?_ _)); exact BK735.out) Tryd.underlying53 rfl (by kernel_rfl)) rfl ?_
        exact ⟨_, _, _, _, by first | rfl | (simp [errW_none, errW_some] <;> rfl) | (simp only [← hji2]; first | rfl | (simp [errW_none, errW_some] <;> rfl)) | (simp [*, errW_none, errW_some] <;> rfl), by first | exact Kd.R_nil _ _ _ _ _ | exact Kd.N_nil _ _ _ _ _ | exact Kd.V_nil _ _ _ _ _ | exact Kd.Q_nil _ _ _ _ _ | exact Kd.S_nil _ _ _ _ _, by first | exact Kd.R_nil _ _ _ _ _ | exact Kd.N_nil _ _ _ _ _ | exact Kd.V_nil _ _ _ _ _ | exact Kd.Q_nil _ _ _ _ _ | exact Kd.S_nil _ _ _ _ _, by (with_reducible repeat (first | apply Kd.R_alloc | apply Kd.R_drewN | apply Kd.R_drew)); exact Kd.R_mono (Kd.R_far (p := ⟨gb735, 4, none⟩) (Kd.R_far (p := ⟨gb735, 3, none⟩) (Kd.R_far (p := ⟨gb735, 2, none⟩) (Kd.R_far (p := ⟨gb735, 1, none⟩) (Kd.R_far (p := ⟨gb735, 0, none⟩) (Kd.R_types HO745.out BK735.out (by decide)) (fun _ hk => hk.2) (.int .i64 0)) (fun _ hk => hk.2) (.slice none 0 0)) (fun _ hk => hk.2) (.slice none 0 0)) (fun _ hk => hk.2) (.slice Ao14 y743.length co14)) (fun _ hk => hk.2) (.slice none 0 0)) (fun _ hk => trivial), by first | exact Kd.R_nil _ _ _ _ _ | exact Kd.N_nil _ _ _ _ _ | exact Kd.V_nil _ _ _ _ _ | exact Kd.Q_nil _ _ _ _ _ | exact Kd.S_nil _ _ _ _ _, by repeat (first | (with_reducible first | exact HB.out | apply below_alloc | apply pw_below_drewN | apply below_drew1 | refine below_set ?_ GE734.out | refine below_set ?_ GE735.out) | exact HB.out)⟩
      · rw [if_neg c5] at H
        exact absurd H (by simp)
    · rw [if_neg c4] at H
      exact absurd H (by simp)
  · rw [if_neg c3] at H
    exact absurd H (by simp)

/-! ### proofmarklaw27_fit: function 27 -/
def proofmarklaw27_fit.f (k : Nat) (l0_0 : List (S96)) (l0_1 : List (S111)) (l0_2 : List (S94)) (l0_3 : List (S73)) (l0_4 : List (S111)) (a0_5 : Int) (l0_6 : List (S201)) (l0_7 : List (S202)) (l0_8 : List (S98)) (l0_9 : List (S204)) (l0_10 : List (List Int)) (l0_11 : List Int) (a0_12 : ByteArray) : Option ((List (S96)) × (List (S111)) × (List (S94)) × (List (S73)) × (List (S111)) × Int × (List (S201)) × (List (S202)) × (List (S98)) × (List (S204))) := (proofmarkref27_Few.f k l0_0 l0_1 l0_2 l0_3 l0_4).bind fun bt749 => ((proofmarkref27_Latches.f a0_5 l0_6 l0_7 l0_8 l0_9).bind fun bt764 => (some (bt749.1, bt749.2.1, bt749.2.2.1, bt749.2.2.2.1, bt749.2.2.2.2, bt764.1, bt764.2.1, bt764.2.2.1, bt764.2.2.2.1, bt764.2.2.2.2)))
theorem proofmarklaw27_fit.mono : ∀ a0 a1 a2 a3 a4 a5 a6 a7 a8 a9 a10 a11 a12 k, LeO (proofmarklaw27_fit.f k a0 a1 a2 a3 a4 a5 a6 a7 a8 a9 a10 a11 a12) (proofmarklaw27_fit.f (k + 1) a0 a1 a2 a3 a4 a5 a6 a7 a8 a9 a10 a11 a12) := by
  intro a0 a1 a2 a3 a4 a5 a6 a7 a8 a9 a10 a11 a12 k
  unfold proofmarklaw27_fit.f
  repeat' first
      | (with_reducible exact proofmarkref27_Few.mono _ _ _ _ _ _)
      | (with_reducible exact LeO.refl _)
      | (with_reducible exact LeO.none _)
      | (with_reducible refine LeO.ite ?_ ?_)
      | (with_reducible refine LeO.bind ?_ (fun _ => ?_))
      | exact proofmarkref27_Few.mono _ _ _ _ _ _
      | exact LeO.none _
      | refine LeO.ite ?_ ?_
      | refine LeO.bind ?_ (fun _ => ?_)
def proofmarklaw27_fit.T1 : Bool × List (List Nat × List Nat) := (true, [([], []), ([0], [0]), ([1], [1]), ([], []), ([3], [3]), ([4, 2], [4]), ([2, 5, 0, 1, 2], [2]), ([5, 6, 0, 1, 2, 3, 4, 5, 6], [5])])
def proofmarklaw27_fit.B1 : List Nat := [0, 1, 3, 0, 8, 31, 63, 127]
theorem proofmarklaw27_fit.tab1 : rtab .any (opsOf Tryd.f27 1) = proofmarklaw27_fit.T1 := by kernel_rfl
theorem proofmarklaw27_fit.bits1 : waitsOk proofmarklaw27_fit.T1.2 proofmarklaw27_fit.B1 = true := by kernel_rfl
set_option maxHeartbeats 8000000 in
set_option maxRecDepth 100000 in
theorem proofmarklaw27_fit.calls (k : Nat) (A0_0 : Option Addr) (c0_0 : Nat) (l0_0 : List (S96)) (A0_1 : Option Addr) (c0_1 : Nat) (l0_1 : List (S111)) (A0_2 : Option Addr) (c0_2 : Nat) (l0_2 : List (S94)) (A0_3 : Option Addr) (c0_3 : Nat) (l0_3 : List (S73)) (A0_4 : Option Addr) (c0_4 : Nat) (l0_4 : List (S111)) (a0_5 : Int) (A0_6 : Option Addr) (c0_6 : Nat) (l0_6 : List (S201)) (A0_7 : Option Addr) (c0_7 : Nat) (l0_7 : List (S202)) (A0_8 : Option Addr) (c0_8 : Nat) (l0_8 : List (S98)) (A0_9 : Option Addr) (c0_9 : Nat) (l0_9 : List (S204)) (A0_10 : Option Addr) (c0_10 : Nat) (l0_10 : List (List Int)) (A0_11 : Option Addr) (c0_11 : Nat) (l0_11 : List Int) (a0_12 : ByteArray) (r1 : List (S96)) (r2 : List (S111)) (r3 : List (S94)) (r4 : List (S73)) (r5 : List (S111)) (r6 : Int) (r7 : List (S201)) (r8 : List (S202)) (r9 : List (S98)) (r10 : List (S204)) (w : World) (hr0_0 : Kd.C k96 w A0_0 l0_0.length l0_0) (hc0_0 : l0_0.length ≤ c0_0) (hr0_1 : Kd.C k111 w A0_1 l0_1.length l0_1) (hc0_1 : l0_1.length ≤ c0_1) (hr0_2 : Kd.C k94 w A0_2 l0_2.length l0_2) (hc0_2 : l0_2.length ≤ c0_2) (hr0_3 : Kd.C k73 w A0_3 l0_3.length l0_3) (hc0_3 : l0_3.length ≤ c0_3) (hr0_4 : Kd.C k111 w A0_4 l0_4.length l0_4) (hc0_4 : l0_4.length ≤ c0_4) (hr0_6 : Kd.C k201 w A0_6 l0_6.length l0_6) (hc0_6 : l0_6.length ≤ c0_6) (hr0_7 : Kd.C k202 w A0_7 l0_7.length l0_7) (hc0_7 : l0_7.length ≤ c0_7) (hr0_8 : Kd.C k98 w A0_8 l0_8.length l0_8) (hc0_8 : l0_8.length ≤ c0_8) (hr0_9 : Kd.C k204 w A0_9 l0_9.length l0_9) (hc0_9 : l0_9.length ≤ c0_9) (hr0_10 : Kd.C (Kd.slice 3 (Kd.int .i64)) w A0_10 l0_10.length l0_10) (hc0_10 : l0_10.length ≤ c0_10) (hr0_11 : Kd.C (Kd.int .i64) w A0_11 l0_11.length l0_11) (hc0_11 : l0_11.length ≤ c0_11) (h : proofmarklaw27_fit.f k l0_0 l0_1 l0_2 l0_3 l0_4 a0_5 l0_6 l0_7 l0_8 l0_9 l0_10 l0_11 a0_12 = some (r1, r2, r3, r4, r5, r6, r7, r8, r9, r10)) :
    Calls Tryd.prog 27 #[.agg #[.slice A0_0 l0_0.length c0_0, .slice A0_1 l0_1.length c0_1, .slice A0_2 l0_2.length c0_2, .slice A0_3 l0_3.length c0_3, .slice A0_4 l0_4.length c0_4, .int .i64 a0_5, .slice A0_6 l0_6.length c0_6, .slice A0_7 l0_7.length c0_7, .slice A0_8 l0_8.length c0_8, .slice A0_9 l0_9.length c0_9, .slice A0_10 l0_10.length c0_10, .slice A0_11 l0_11.length c0_11, .string a0_12]] w fun e w' => ∃ v0_ v1_ v2_ v3_ v4_ v6_ v7_ v8_ v9_ : Value, e = .returned (.tuple #[.agg #[v0_, v1_, v2_, v3_, v4_], .agg #[.int .i64 r6, v6_, v7_, v8_, v9_]]) ∧ Kd.R k96 96 w' w.heap.size (fun _ => True) v0_ r1 ∧ Kd.R k111 111 w' w.heap.size (fun k_ => some k_ ≠ (v4_ : Value).ownBlock) v1_ r2 ∧ Kd.R k94 94 w' w.heap.size (fun _ => True) v2_ r3 ∧ Kd.R k73 73 w' w.heap.size (fun _ => True) v3_ r4 ∧ Kd.R k111 111 w' w.heap.size (fun k_ => some k_ ≠ (v1_ : Value).ownBlock) v4_ r5 ∧ Kd.R k201 201 w' w.heap.size (fun _ => True) v6_ r7 ∧ Kd.R k202 202 w' w.heap.size (fun _ => True) v7_ r8 ∧ Kd.R k98 98 w' w.heap.size (fun _ => True) v8_ r9 ∧ Kd.R k204 204 w' w.heap.size (fun _ => True) v9_ r10 ∧ Below w.heap.size w w' := by
  have hu61 := Tryd.underlying61
  have hu27 := Tryd.underlying27
  have hu53 := Tryd.underlying53
  have HR0_0 := Aside0.mk hr0_0
  have HC0_0 := Aside0.mk hc0_0
  clear hr0_0 hc0_0
  have HR0_1 := Aside0.mk hr0_1
  have HC0_1 := Aside0.mk hc0_1
  clear hr0_1 hc0_1
  have HR0_2 := Aside0.mk hr0_2
  have HC0_2 := Aside0.mk hc0_2
  clear hr0_2 hc0_2
  have HR0_3 := Aside0.mk hr0_3
  have HC0_3 := Aside0.mk hc0_3
  clear hr0_3 hc0_3
  have HR0_4 := Aside0.mk hr0_4
  have HC0_4 := Aside0.mk hc0_4
  clear hr0_4 hc0_4
  have HR0_6 := Aside0.mk hr0_6
  have HC0_6 := Aside0.mk hc0_6
  clear hr0_6 hc0_6
  have HR0_7 := Aside0.mk hr0_7
  have HC0_7 := Aside0.mk hc0_7
  clear hr0_7 hc0_7
  have HR0_8 := Aside0.mk hr0_8
  have HC0_8 := Aside0.mk hc0_8
  clear hr0_8 hc0_8
  have HR0_9 := Aside0.mk hr0_9
  have HC0_9 := Aside0.mk hc0_9
  clear hr0_9 hc0_9
  have HR0_10 := Aside0.mk hr0_10
  have HC0_10 := Aside0.mk hc0_10
  clear hr0_10 hc0_10
  have HR0_11 := Aside0.mk hr0_11
  have HC0_11 := Aside0.mk hc0_11
  clear hr0_11 hc0_11
  have HB := Aside0.mk (Below.refl w.heap.size w)
  have H : ((proofmarkref27_Few.f k l0_0 l0_1 l0_2 l0_3 l0_4).bind fun bt749 => ((proofmarkref27_Latches.f a0_5 l0_6 l0_7 l0_8 l0_9).bind fun bt764 => (some (bt749.1, bt749.2.1, bt749.2.2.1, bt749.2.2.2.1, bt749.2.2.2.2, bt764.1, bt764.2.1, bt764.2.2.1, bt764.2.2.2.1, bt764.2.2.2.2)))) = some (r1, r2, r3, r4, r5, r6, r7, r8, r9, r10) := h
  clear h
  replace H := Option.bind_eq_some_iff.mp H
  obtain ⟨⟨t749, t752, t755, t758, t761⟩, A20, H⟩ := H
  replace H : ((proofmarkref27_Latches.f a0_5 l0_6 l0_7 l0_8 l0_9).bind fun bt764 => (some (t749, t752, t755, t758, t761, bt764.1, bt764.2.1, bt764.2.2.1, bt764.2.2.2.1, bt764.2.2.2.2))) = some (r1, r2, r3, r4, r5, r6, r7, r8, r9, r10) := H
  have A2 := Aside0.mk A20
  clear A20
  replace H := Option.bind_eq_some_iff.mp H
  obtain ⟨⟨t764, t765, t768, t771, t774⟩, A30, H⟩ := H
  replace H : (some (t749, t752, t755, t758, t761, t764, t765, t768, t771, t774)) = some (r1, r2, r3, r4, r5, r6, r7, r8, r9, r10) := H
  have A3 := Aside0.mk A30
  clear A30
  simp only [Option.some.injEq, Prod.mk.injEq] at H
  obtain ⟨rfl, rfl, rfl, rfl, rfl, rfl, rfl, rfl, rfl, rfl⟩ := H
  go_enter Tryd.func27, Tryd.ntmps27
  try go_wp2_with (first | ((with_reducible refine gate_dst (N := 1) rfl ?_); refine box_event ?hg (N := 1) ?hd (cs := #[.slice A0_0 l0_0.length c0_0, .slice A0_1 l0_1.length c0_1, .slice A0_2 l0_2.length c0_2, .slice A0_3 l0_3.length c0_3, .slice A0_4 l0_4.length c0_4, .int .i64 a0_5, .slice A0_6 l0_6.length c0_6, .slice A0_7 l0_7.length c0_7, .slice A0_8 l0_8.length c0_8, .slice A0_9 l0_9.length c0_9, .slice A0_10 l0_10.length c0_10, .slice A0_11 l0_11.length c0_11, .string a0_12]) (t := 61) ?hr ?_; (case hd => rfl); (case hg => rfl); (case hr => first | (go_simp; done) | (go_simp; rfl)); intro gb746 hg w4 hbox hb; have n0_ := Aside0.mk (below_step (by repeat (first | (with_reducible first | exact HB.out | apply below_alloc | apply pw_below_drewN | apply below_drew1) | exact HB.out)) hb); have n1_ := Aside0.mk (hbox); have n2_ := Aside0.mk ((by rw [hg]; exact (below_size (by repeat (first | (with_reducible first | exact HB.out | apply below_alloc | apply pw_below_drewN | apply below_drew1) | exact HB.out))) : w.heap.size ≤ gb746)); have n3_ := Aside0.mk ((by rw [hg]; exact (below_size (by repeat (first | (with_reducible first | exact HB.out | apply below_alloc | apply pw_below_drewN | apply below_drew1) | exact HB.out))) : w.heap.size ≤ gb746)); clear HB; have HB := n0_; have BK746 := n1_; have GW746 := n2_; have GE746 := n3_; clear n0_ n1_ n2_ n3_; clear hb hbox hg) | ((with_reducible refine gate_dst (N := 2) rfl ?_); refine box_event ?hg (N := 2) ?hd (cs := #[.slice none 0 0, .slice none 0 0, .slice none 0 0, .slice none 0 0, .slice none 0 0]) (t := 27) ?hr ?_; (case hd => rfl); (case hg => rfl); (case hr => first | (go_simp; done) | (go_simp; rfl)); intro gb747 hg w5 hbox hb; have n0_ := Aside0.mk (blk_below (g := gb746) (o := .cells #[.slice A0_0 l0_0.length c0_0, .slice A0_1 l0_1.length c0_1, .slice A0_2 l0_2.length c0_2, .slice A0_3 l0_3.length c0_3, .slice A0_4 l0_4.length c0_4, .int .i64 a0_5, .slice A0_6 l0_6.length c0_6, .slice A0_7 l0_7.length c0_7, .slice A0_8 l0_8.length c0_8, .slice A0_9 l0_9.length c0_9, .slice A0_10 l0_10.length c0_10, .slice A0_11 l0_11.length c0_11, .string a0_12] 61 (0, 0)) (by (with_reducible repeat (first | refine blk_drewN ?_ _ | refine blk_drew ?_ | refine blk_alloc ?_ _)); exact BK746.out) hb); have n1_ := Aside0.mk (below_step (by repeat (first | (with_reducible first | exact HB.out | apply below_alloc | apply pw_below_drewN | apply below_drew1 | refine below_set ?_ GE746.out) | exact HB.out)) hb); have n2_ := Aside0.mk (hbox); have n3_ := Aside0.mk ((by rw [hg]; exact (below_size (by repeat (first | (with_reducible first | exact HB.out | apply below_alloc | apply pw_below_drewN | apply below_drew1 | refine below_set ?_ GE746.out) | exact HB.out))) : w.heap.size ≤ gb747)); have n4_ := Aside0.mk ((by rw [hg]; exact (below_size (by repeat (first | (with_reducible first | exact HB.out | apply below_alloc | apply pw_below_drewN | apply below_drew1 | refine below_set ?_ GE746.out) | exact HB.out))) : w.heap.size ≤ gb747)); have n5_ := Aside0.mk ((by rw [hg]; exact Nat.ne_of_lt (blk_lt (g := gb746) (o := .cells #[.slice A0_0 l0_0.length c0_0, .slice A0_1 l0_1.length c0_1, .slice A0_2 l0_2.length c0_2, .slice A0_3 l0_3.length c0_3, .slice A0_4 l0_4.length c0_4, .int .i64 a0_5, .slice A0_6 l0_6.length c0_6, .slice A0_7 l0_7.length c0_7, .slice A0_8 l0_8.length c0_8, .slice A0_9 l0_9.length c0_9, .slice A0_10 l0_10.length c0_10, .slice A0_11 l0_11.length c0_11, .string a0_12] 61 (0, 0)) (by (with_reducible repeat (first | refine blk_drewN ?_ _ | refine blk_drew ?_ | refine blk_alloc ?_ _)); exact BK746.out)) : gb746 ≠ gb747)); have n6_ := Aside0.mk ((by rw [hg]; exact Nat.ne_of_gt (blk_lt (g := gb746) (o := .cells #[.slice A0_0 l0_0.length c0_0, .slice A0_1 l0_1.length c0_1, .slice A0_2 l0_2.length c0_2, .slice A0_3 l0_3.length c0_3, .slice A0_4 l0_4.length c0_4, .int .i64 a0_5, .slice A0_6 l0_6.length c0_6, .slice A0_7 l0_7.length c0_7, .slice A0_8 l0_8.length c0_8, .slice A0_9 l0_9.length c0_9, .slice A0_10 l0_10.length c0_10, .slice A0_11 l0_11.length c0_11, .string a0_12] 61 (0, 0)) (by (with_reducible repeat (first | refine blk_drewN ?_ _ | refine blk_drew ?_ | refine blk_alloc ?_ _)); exact BK746.out)) : gb747 ≠ gb746)); clear BK746; clear HB; have BK746 := n0_; have HB := n1_; have BK747 := n2_; have GW747 := n3_; have GE747 := n4_; have NB746_747 := n5_; have NB747_746 := n6_; clear n0_ n1_ n2_ n3_ n4_ n5_ n6_; clear hb hbox hg) | ((with_reducible refine gate_dst (N := 3) rfl ?_); refine box_event ?hg (N := 3) ?hd (cs := #[.int .i64 0, .slice none 0 0, .slice none 0 0, .slice none 0 0, .slice none 0 0]) (t := 53) ?hr ?_; (case hd => rfl); (case hg => rfl); (case hr => first | (go_simp; done) | (go_simp; rfl)); intro gb748 hg w6 hbox hb; have n0_ := Aside0.mk (blk_below (g := gb746) (o := .cells #[.slice A0_0 l0_0.length c0_0, .slice A0_1 l0_1.length c0_1, .slice A0_2 l0_2.length c0_2, .slice A0_3 l0_3.length c0_3, .slice A0_4 l0_4.length c0_4, .int .i64 a0_5, .slice A0_6 l0_6.length c0_6, .slice A0_7 l0_7.length c0_7, .slice A0_8 l0_8.length c0_8, .slice A0_9 l0_9.length c0_9, .slice A0_10 l0_10.length c0_10, .slice A0_11 l0_11.length c0_11, .string a0_12] 61 (0, 0)) (by (with_reducible repeat (first | refine blk_drewN ?_ _ | refine blk_drew ?_ | refine blk_alloc ?_ _)); exact BK746.out) hb); have n1_ := Aside0.mk (blk_below (g := gb747) (o := .cells #[.slice none 0 0, .slice none 0 0, .slice none 0 0, .slice none 0 0, .slice none 0 0] 27 (0, 0)) (by (with_reducible repeat (first | refine blk_drewN ?_ _ | refine blk_drew ?_ | refine blk_alloc ?_ _)); exact BK747.out) hb); have n2_ := Aside0.mk (below_step (by repeat (first | (with_reducible first | exact HB.out | apply below_alloc | apply pw_below_drewN | apply below_drew1 | refine below_set ?_ GE746.out | refine below_set ?_ GE747.out) | exact HB.out)) hb); have n3_ := Aside0.mk (hbox); have n4_ := Aside0.mk ((by rw [hg]; exact (below_size (by repeat (first | (with_reducible first | exact HB.out | apply below_alloc | apply pw_below_drewN | apply below_drew1 | refine below_set ?_ GE746.out | refine below_set ?_ GE747.out) | exact HB.out))) : w.heap.size ≤ gb748)); have n5_ := Aside0.mk ((by rw [hg]; exact (below_size (by repeat (first | (with_reducible first | exact HB.out | apply below_alloc | apply pw_below_drewN | apply below_drew1 | refine below_set ?_ GE746.out | refine below_set ?_ GE747.out) | exact HB.out))) : w.heap.size ≤ gb748)); have n6_ := Aside0.mk ((by rw [hg]; exact Nat.ne_of_lt (blk_lt (g := gb746) (o := .cells #[.slice A0_0 l0_0.length c0_0, .slice A0_1 l0_1.length c0_1, .slice A0_2 l0_2.length c0_2, .slice A0_3 l0_3.length c0_3, .slice A0_4 l0_4.length c0_4, .int .i64 a0_5, .slice A0_6 l0_6.length c0_6, .slice A0_7 l0_7.length c0_7, .slice A0_8 l0_8.length c0_8, .slice A0_9 l0_9.length c0_9, .slice A0_10 l0_10.length c0_10, .slice A0_11 l0_11.length c0_11, .string a0_12] 61 (0, 0)) (by (with_reducible repeat (first | refine blk_drewN ?_ _ | refine blk_drew ?_ | refine blk_alloc ?_ _)); exact BK746.out)) : gb746 ≠ gb748)); have n7_ := Aside0.mk ((by rw [hg]; exact Nat.ne_of_gt (blk_lt (g := gb746) (o := .cells #[.slice A0_0 l0_0.length c0_0, .slice A0_1 l0_1.length c0_1, .slice A0_2 l0_2.length c0_2, .slice A0_3 l0_3.length c0_3, .slice A0_4 l0_4.length c0_4, .int .i64 a0_5, .slice A0_6 l0_6.length c0_6, .slice A0_7 l0_7.length c0_7, .slice A0_8 l0_8.length c0_8, .slice A0_9 l0_9.length c0_9, .slice A0_10 l0_10.length c0_10, .slice A0_11 l0_11.length c0_11, .string a0_12] 61 (0, 0)) (by (with_reducible repeat (first | refine blk_drewN ?_ _ | refine blk_drew ?_ | refine blk_alloc ?_ _)); exact BK746.out)) : gb748 ≠ gb746)); have n8_ := Aside0.mk ((by rw [hg]; exact Nat.ne_of_lt (blk_lt (g := gb747) (o := .cells #[.slice none 0 0, .slice none 0 0, .slice none 0 0, .slice none 0 0, .slice none 0 0] 27 (0, 0)) (by (with_reducible repeat (first | refine blk_drewN ?_ _ | refine blk_drew ?_ | refine blk_alloc ?_ _)); exact BK747.out)) : gb747 ≠ gb748)); have n9_ := Aside0.mk ((by rw [hg]; exact Nat.ne_of_gt (blk_lt (g := gb747) (o := .cells #[.slice none 0 0, .slice none 0 0, .slice none 0 0, .slice none 0 0, .slice none 0 0] 27 (0, 0)) (by (with_reducible repeat (first | refine blk_drewN ?_ _ | refine blk_drew ?_ | refine blk_alloc ?_ _)); exact BK747.out)) : gb748 ≠ gb747)); clear BK746; clear BK747; clear HB; have BK746 := n0_; have BK747 := n1_; have HB := n2_; have BK748 := n3_; have GW748 := n4_; have GE748 := n5_; have NB746_748 := n6_; have NB748_746 := n7_; have NB747_748 := n8_; have NB748_747 := n9_; clear n0_ n1_ n2_ n3_ n4_ n5_ n6_ n7_ n8_ n9_; clear hb hbox hg))
  have n0_ := Aside0.mk (blk_drew BK746.out)
  have n1_ := Aside0.mk (blk_drew BK747.out)
  have n2_ := Aside0.mk (blk_drew BK748.out)
  have n3_ := Aside0.mk (below_drew1 HB.out)
  clear BK746
  clear BK747
  clear BK748
  clear HB
  have BK746 := n0_
  have BK747 := n1_
  have BK748 := n2_
  have HB := n3_
  clear n0_ n1_ n2_ n3_
  refine start_ (n := 8) (S := fun w' => w'.cell? ⟨gb746, 0, none⟩ = some (.slice A0_0 l0_0.length c0_0) ∧ w'.cell? ⟨gb746, 1, none⟩ = some (.slice A0_1 l0_1.length c0_1) ∧ w'.cell? ⟨gb746, 2, none⟩ = some (.slice A0_2 l0_2.length c0_2) ∧ w'.cell? ⟨gb746, 3, none⟩ = some (.slice A0_3 l0_3.length c0_3) ∧ w'.cell? ⟨gb746, 4, none⟩ = some (.slice A0_4 l0_4.length c0_4) ∧ w'.cell? ⟨gb746, 5, none⟩ = some (.int .i64 a0_5) ∧ w'.cell? ⟨gb746, 6, none⟩ = some (.slice A0_6 l0_6.length c0_6) ∧ w'.cell? ⟨gb746, 7, none⟩ = some (.slice A0_7 l0_7.length c0_7) ∧ w'.cell? ⟨gb746, 8, none⟩ = some (.slice A0_8 l0_8.length c0_8) ∧ w'.cell? ⟨gb746, 9, none⟩ = some (.slice A0_9 l0_9.length c0_9) ∧ w'.cell? ⟨gb746, 10, none⟩ = some (.slice A0_10 l0_10.length c0_10) ∧ w'.cell? ⟨gb746, 11, none⟩ = some (.slice A0_11 l0_11.length c0_11) ∧ w'.cell? ⟨gb746, 12, none⟩ = some (.string a0_12)) (ds := []) #[false, false, false, false, false, false, false, false] (by kernel_rfl) rfl rfl ⟨(blk_cell BK746.out 0).trans rfl, (blk_cell BK746.out 1).trans rfl, (blk_cell BK746.out 2).trans rfl, (blk_cell BK746.out 3).trans rfl, (blk_cell BK746.out 4).trans rfl, (blk_cell BK746.out 5).trans rfl, (blk_cell BK746.out 6).trans rfl, (blk_cell BK746.out 7).trans rfl, (blk_cell BK746.out 8).trans rfl, (blk_cell BK746.out 9).trans rfl, (blk_cell BK746.out 10).trans rfl, (blk_cell BK746.out 11).trans rfl, (blk_cell BK746.out 12).trans rfl⟩ (fun hHeld => ?_); refine with_tabW proofmarklaw27_fit.tab1 proofmarklaw27_fit.bits1 (fun HT_ HW_ => ?_)
  generalize w6.drew = w7 at BK746 BK747 BK748 HB hHeld ⊢
  refine pure_ (i := 0) (N := some 4) (v := ?_) (a' := ?_) #[true, false, false, false, false, false, false, false] rfl rfl (any_of HT_.out (by kernel_rfl)) (fun _ _ _ h => h) (Or.inl ⟨by rfl, ?_⟩) ?_ ?_
  rotate_left
  · intro w'
    go_simp
    with_reducible rfl
  rotate_left
  · simp only [Act.put, List.setIfInBounds_toArray, List.set_cons_zero, List.set_cons_succ, i64_w, i32_w]
    rfl
  refine pure_ (i := 3) (N := some 7) (v := ?_) (a' := ?_) #[true, false, false, true, false, false, false, false] rfl rfl (any_of HT_.out (by kernel_rfl)) (fun _ _ _ h => h) (Or.inl ⟨by rfl, ?_⟩) ?_ ?_
  rotate_left
  · intro w'
    go_simp
    with_reducible rfl
  rotate_left
  · simp only [Act.put, List.setIfInBounds_toArray, List.set_cons_zero, List.set_cons_succ, i64_w, i32_w]
    rfl
  refine take_ (i := 1) (N := some 5) (v := ?_) (a' := ?_) #[true, true, false, true, false, false, false, false] rfl rfl (take_ofW HT_.out HW_.out (by kernel_rfl)) (fun _ _ _ h => h) (Or.inl ⟨by rfl, ?_⟩) hHeld ?_ ?_
  rotate_left
  · rintro w' ⟨s0, s1, s2, s3, s4, s5, s6, s7, s8, s9, s10, s11, s12⟩
    go_simp
    with_reducible rfl
  rotate_left
  · simp only [Act.put, List.setIfInBounds_toArray, List.set_cons_zero, List.set_cons_succ, i64_w, i32_w]
    rfl
  refine take_ (i := 4) (N := some 8) (v := ?_) (a' := ?_) #[true, true, false, true, true, false, false, false] rfl rfl (take_ofW HT_.out HW_.out (by kernel_rfl)) (fun _ _ _ h => h) (Or.inl ⟨by rfl, ?_⟩) hHeld ?_ ?_
  rotate_left
  · rintro w' ⟨s0, s1, s2, s3, s4, s5, s6, s7, s8, s9, s10, s11, s12⟩
    go_simp
    with_reducible rfl
  rotate_left
  · simp only [Act.put, List.setIfInBounds_toArray, List.set_cons_zero, List.set_cons_succ, i64_w, i32_w]
    rfl
  refine one_ (i := 2) (N := some 6) #[true, true, true, true, true, false, false, false] rfl rfl (one_of HT_.out (by kernel_rfl)) (by decide) (fun K hK => ?_)
  refine goes_ Tryd.func33 (by kernel_rfl) rfl #[.agg #[.slice A0_0 l0_0.length c0_0, .slice A0_1 l0_1.length c0_1, .slice A0_2 l0_2.length c0_2, .slice A0_3 l0_3.length c0_3, .slice A0_4 l0_4.length c0_4]] (by rfl) rfl rfl (by (try simp only [List.map_toArray, List.map_cons, List.map_nil]); first | done | rfl | (simp only [List.length_drop, List.length_take]; rfl)) ?_
  with_reducible refine (proofmarkref27_Few.calls k _ _ l0_0 _ _ l0_1 _ _ l0_2 _ _ l0_3 _ _ l0_4 t749 t752 t755 t758 t761 _ ?side1 ?side2 ?side3 ?side4 ?side5 ?side6 ?side7 ?side8 ?side9 ?side10 A2.out).mono ?_
  (case side1 => repeat (first | exact (Kd.C_below HR0_0.out HB.out) | (with_reducible refine Kd.C_alloc ?_ _) | (with_reducible refine Kd.C_drewN ?_ _) | (with_reducible refine Kd.C_drew ?_)))
  (case side2 => exact HC0_0.out)
  (case side3 => repeat (first | exact (Kd.C_below HR0_1.out HB.out) | (with_reducible refine Kd.C_alloc ?_ _) | (with_reducible refine Kd.C_drewN ?_ _) | (with_reducible refine Kd.C_drew ?_)))
  (case side4 => exact HC0_1.out)
  (case side5 => repeat (first | exact (Kd.C_below HR0_2.out HB.out) | (with_reducible refine Kd.C_alloc ?_ _) | (with_reducible refine Kd.C_drewN ?_ _) | (with_reducible refine Kd.C_drew ?_)))
  (case side6 => exact HC0_2.out)
  (case side7 => repeat (first | exact (Kd.C_below HR0_3.out HB.out) | (with_reducible refine Kd.C_alloc ?_ _) | (with_reducible refine Kd.C_drewN ?_ _) | (with_reducible refine Kd.C_drew ?_)))
  (case side8 => exact HC0_3.out)
  (case side9 => repeat (first | exact (Kd.C_below HR0_4.out HB.out) | (with_reducible refine Kd.C_alloc ?_ _) | (with_reducible refine Kd.C_drewN ?_ _) | (with_reducible refine Kd.C_drew ?_)))
  (case side10 => exact HC0_4.out)
  rintro e w8 ⟨v750, v753, v756, v759, v762, rfl, ho0, ho1, ho2, ho3, ho4, hb⟩
  refine ⟨_, rfl, ?_⟩
  have n0_ := Aside0.mk (Kd.R_lower ho0 (below_size (by repeat (first | (with_reducible first | exact HB.out | apply below_alloc | apply pw_below_drewN | apply below_drew1 | refine below_set ?_ GE746.out | refine below_set ?_ GE747.out | refine below_set ?_ GE748.out) | exact HB.out))))
  have n1_ := Aside0.mk (Kd.R_lower ho1 (below_size (by repeat (first | (with_reducible first | exact HB.out | apply below_alloc | apply pw_below_drewN | apply below_drew1 | refine below_set ?_ GE746.out | refine below_set ?_ GE747.out | refine below_set ?_ GE748.out) | exact HB.out))))
  have n2_ := Aside0.mk (Kd.R_lower ho2 (below_size (by repeat (first | (with_reducible first | exact HB.out | apply below_alloc | apply pw_below_drewN | apply below_drew1 | refine below_set ?_ GE746.out | refine below_set ?_ GE747.out | refine below_set ?_ GE748.out) | exact HB.out))))
  have n3_ := Aside0.mk (Kd.R_lower ho3 (below_size (by repeat (first | (with_reducible first | exact HB.out | apply below_alloc | apply pw_below_drewN | apply below_drew1 | refine below_set ?_ GE746.out | refine below_set ?_ GE747.out | refine below_set ?_ GE748.out) | exact HB.out))))
  have n4_ := Aside0.mk (Kd.R_lower ho4 (below_size (by repeat (first | (with_reducible first | exact HB.out | apply below_alloc | apply pw_below_drewN | apply below_drew1 | refine below_set ?_ GE746.out | refine below_set ?_ GE747.out | refine below_set ?_ GE748.out) | exact HB.out))))
  have n5_ := Aside0.mk (blk_below (g := gb746) (o := .cells #[.slice A0_0 l0_0.length c0_0, .slice A0_1 l0_1.length c0_1, .slice A0_2 l0_2.length c0_2, .slice A0_3 l0_3.length c0_3, .slice A0_4 l0_4.length c0_4, .int .i64 a0_5, .slice A0_6 l0_6.length c0_6, .slice A0_7 l0_7.length c0_7, .slice A0_8 l0_8.length c0_8, .slice A0_9 l0_9.length c0_9, .slice A0_10 l0_10.length c0_10, .slice A0_11 l0_11.length c0_11, .string a0_12] 61 (0, 0)) (by (with_reducible repeat (first | refine blk_drewN ?_ _ | refine blk_drew ?_ | refine blk_alloc ?_ _)); exact BK746.out) hb)
  have n6_ := Aside0.mk (blk_below (g := gb747) (o := .cells #[.slice none 0 0, .slice none 0 0, .slice none 0 0, .slice none 0 0, .slice none 0 0] 27 (0, 0)) (by (with_reducible repeat (first | refine blk_drewN ?_ _ | refine blk_drew ?_ | refine blk_alloc ?_ _)); exact BK747.out) hb)
  have n7_ := Aside0.mk (blk_below (g := gb748) (o := .cells #[.int .i64 0, .slice none 0 0, .slice none 0 0, .slice none 0 0, .slice none 0 0] 53 (0, 0)) (by (with_reducible repeat (first | refine blk_drewN ?_ _ | refine blk_drew ?_ | refine blk_alloc ?_ _)); exact BK748.out) hb)
  have n8_ := Aside0.mk (below_step (by repeat (first | (with_reducible first | exact HB.out | apply below_alloc | apply pw_below_drewN | apply below_drew1 | refine below_set ?_ GE746.out | refine below_set ?_ GE747.out | refine below_set ?_ GE748.out) | exact HB.out)) hb)
  clear BK746
  clear BK747
  clear BK748
  clear HB
  have HO751 := n0_
  have HO754 := n1_
  have HO757 := n2_
  have HO760 := n3_
  have HO763 := n4_
  have BK746 := n5_
  have BK747 := n6_
  have BK748 := n7_
  have HB := n8_
  clear n0_ n1_ n2_ n3_ n4_ n5_ n6_ n7_ n8_
  (try clear hb)
  (try clear hb2)
  (try clear hk)
  (try clear hi)
  (try clear ho0)
  (try clear ho1)
  (try clear ho2)
  (try clear ho3)
  (try clear ho4)
  refine hK.out _ _ ⟨(blk_cell BK746.out 0).trans rfl, (blk_cell BK746.out 1).trans rfl, (blk_cell BK746.out 2).trans rfl, (blk_cell BK746.out 3).trans rfl, (blk_cell BK746.out 4).trans rfl, (blk_cell BK746.out 5).trans rfl, (blk_cell BK746.out 6).trans rfl, (blk_cell BK746.out 7).trans rfl, (blk_cell BK746.out 8).trans rfl, (blk_cell BK746.out 9).trans rfl, (blk_cell BK746.out 10).trans rfl, (blk_cell BK746.out 11).trans rfl, (blk_cell BK746.out 12).trans rfl⟩ (fun hHeld => ?_)
  clear hK K
  refine norm_ (a' := ?_) ?_ ?_
  rotate_left
  · show Act.put _ (some 6) _ = _
    simp only [Act.put, List.setIfInBounds_toArray, List.set_cons_zero, List.set_cons_succ, i64_w, i32_w]
    rfl
  refine one_ (i := 5) (N := some 9) #[true, true, true, true, true, true, false, false] rfl rfl (one_of HT_.out (by kernel_rfl)) (by decide) (fun K hK => ?_)
  refine goes_ Tryd.func57 (by kernel_rfl) rfl #[.agg #[.int .i64 a0_5, .slice A0_6 l0_6.length c0_6, .slice A0_7 l0_7.length c0_7, .slice A0_8 l0_8.length c0_8, .slice A0_9 l0_9.length c0_9]] (by rfl) rfl rfl (by (try simp only [List.map_toArray, List.map_cons, List.map_nil]); first | done | rfl | (simp only [List.length_drop, List.length_take]; rfl)) ?_
  with_reducible refine (proofmarkref27_Latches.calls a0_5 _ _ l0_6 _ _ l0_7 _ _ l0_8 _ _ l0_9 t764 t765 t768 t771 t774 _ ?side1 ?side2 ?side3 ?side4 ?side5 ?side6 ?side7 ?side8 A3.out).mono ?_
  (case side1 => repeat (first | exact (Kd.C_below HR0_6.out HB.out) | (with_reducible refine Kd.C_alloc ?_ _) | (with_reducible refine Kd.C_drewN ?_ _) | (with_reducible refine Kd.C_drew ?_)))
  (case side2 => exact HC0_6.out)
  (case side3 => repeat (first | exact (Kd.C_below HR0_7.out HB.out) | (with_reducible refine Kd.C_alloc ?_ _) | (with_reducible refine Kd.C_drewN ?_ _) | (with_reducible refine Kd.C_drew ?_)))
  (case side4 => exact HC0_7.out)
  (case side5 => repeat (first | exact (Kd.C_below HR0_8.out HB.out) | (with_reducible refine Kd.C_alloc ?_ _) | (with_reducible refine Kd.C_drewN ?_ _) | (with_reducible refine Kd.C_drew ?_)))
  (case side6 => exact HC0_8.out)
  (case side7 => repeat (first | exact (Kd.C_below HR0_9.out HB.out) | (with_reducible refine Kd.C_alloc ?_ _) | (with_reducible refine Kd.C_drewN ?_ _) | (with_reducible refine Kd.C_drew ?_)))
  (case side8 => exact HC0_9.out)
  rintro e w9 ⟨v766, v769, v772, v775, rfl, ho0, ho1, ho2, ho3, hb⟩
  refine ⟨_, rfl, ?_⟩
  have n0_ := Aside0.mk (Kd.R_below (by (with_reducible repeat (first | apply Kd.R_alloc | apply Kd.R_drewN | apply Kd.R_drew)); exact HO751.out) hb)
  have n1_ := Aside0.mk (Kd.R_below (by (with_reducible repeat (first | apply Kd.R_alloc | apply Kd.R_drewN | apply Kd.R_drew)); exact HO754.out) hb)
  have n2_ := Aside0.mk (Kd.R_below (by (with_reducible repeat (first | apply Kd.R_alloc | apply Kd.R_drewN | apply Kd.R_drew)); exact HO757.out) hb)
  have n3_ := Aside0.mk (Kd.R_below (by (with_reducible repeat (first | apply Kd.R_alloc | apply Kd.R_drewN | apply Kd.R_drew)); exact HO760.out) hb)
  have n4_ := Aside0.mk (Kd.R_below (by (with_reducible repeat (first | apply Kd.R_alloc | apply Kd.R_drewN | apply Kd.R_drew)); exact HO763.out) hb)
  have n5_ := Aside0.mk (Kd.R_lower ho0 (below_size (by repeat (first | (with_reducible first | exact HB.out | apply below_alloc | apply pw_below_drewN | apply below_drew1 | refine below_set ?_ GE746.out | refine below_set ?_ GE747.out | refine below_set ?_ GE748.out) | exact HB.out))))
  have n6_ := Aside0.mk (Kd.R_lower ho1 (below_size (by repeat (first | (with_reducible first | exact HB.out | apply below_alloc | apply pw_below_drewN | apply below_drew1 | refine below_set ?_ GE746.out | refine below_set ?_ GE747.out | refine below_set ?_ GE748.out) | exact HB.out))))
  have n7_ := Aside0.mk (Kd.R_lower ho2 (below_size (by repeat (first | (with_reducible first | exact HB.out | apply below_alloc | apply pw_below_drewN | apply below_drew1 | refine below_set ?_ GE746.out | refine below_set ?_ GE747.out | refine below_set ?_ GE748.out) | exact HB.out))))
  have n8_ := Aside0.mk (Kd.R_lower ho3 (below_size (by repeat (first | (with_reducible first | exact HB.out | apply below_alloc | apply pw_below_drewN | apply below_drew1 | refine below_set ?_ GE746.out | refine below_set ?_ GE747.out | refine below_set ?_ GE748.out) | exact HB.out))))
  have n9_ := Aside0.mk (blk_below (g := gb746) (o := .cells #[.slice A0_0 l0_0.length c0_0, .slice A0_1 l0_1.length c0_1, .slice A0_2 l0_2.length c0_2, .slice A0_3 l0_3.length c0_3, .slice A0_4 l0_4.length c0_4, .int .i64 a0_5, .slice A0_6 l0_6.length c0_6, .slice A0_7 l0_7.length c0_7, .slice A0_8 l0_8.length c0_8, .slice A0_9 l0_9.length c0_9, .slice A0_10 l0_10.length c0_10, .slice A0_11 l0_11.length c0_11, .string a0_12] 61 (0, 0)) (by (with_reducible repeat (first | refine blk_drewN ?_ _ | refine blk_drew ?_ | refine blk_alloc ?_ _)); exact BK746.out) hb)
  have n10_ := Aside0.mk (blk_below (g := gb747) (o := .cells #[.slice none 0 0, .slice none 0 0, .slice none 0 0, .slice none 0 0, .slice none 0 0] 27 (0, 0)) (by (with_reducible repeat (first | refine blk_drewN ?_ _ | refine blk_drew ?_ | refine blk_alloc ?_ _)); exact BK747.out) hb)
  have n11_ := Aside0.mk (blk_below (g := gb748) (o := .cells #[.int .i64 0, .slice none 0 0, .slice none 0 0, .slice none 0 0, .slice none 0 0] 53 (0, 0)) (by (with_reducible repeat (first | refine blk_drewN ?_ _ | refine blk_drew ?_ | refine blk_alloc ?_ _)); exact BK748.out) hb)
  have n12_ := Aside0.mk (below_step (by repeat (first | (with_reducible first | exact HB.out | apply below_alloc | apply pw_below_drewN | apply below_drew1 | refine below_set ?_ GE746.out | refine below_set ?_ GE747.out | refine below_set ?_ GE748.out) | exact HB.out)) hb)
  clear HO751
  clear HO754
  clear HO757
  clear HO760
  clear HO763
  clear BK746
  clear BK747
  clear BK748
  clear HB
  have HO751 := n0_
  have HO754 := n1_
  have HO757 := n2_
  have HO760 := n3_
  have HO763 := n4_
  have HO767 := n5_
  have HO770 := n6_
  have HO773 := n7_
  have HO776 := n8_
  have BK746 := n9_
  have BK747 := n10_
  have BK748 := n11_
  have HB := n12_
  clear n0_ n1_ n2_ n3_ n4_ n5_ n6_ n7_ n8_ n9_ n10_ n11_ n12_
  (try clear hb)
  (try clear hb2)
  (try clear hk)
  (try clear hi)
  (try clear ho0)
  (try clear ho1)
  (try clear ho2)
  (try clear ho3)
  obtain ⟨Ao10, co10, eo10⟩ := Kd.R_slice HO751.out
  (first | subst eo10 | (injection eo10 with f1_ f2_ f3_; have f4_ := f1_.symm; have f5_ := f3_.symm; clear f1_ f2_ f3_; subst f4_; subst f5_))
  obtain ⟨Ao12, co12, eo12⟩ := Kd.R_slice HO754.out
  (first | subst eo12 | (injection eo12 with f1_ f2_ f3_; have f4_ := f1_.symm; have f5_ := f3_.symm; clear f1_ f2_ f3_; subst f4_; subst f5_))
  obtain ⟨Ao14, co14, eo14⟩ := Kd.R_slice HO757.out
  (first | subst eo14 | (injection eo14 with f1_ f2_ f3_; have f4_ := f1_.symm; have f5_ := f3_.symm; clear f1_ f2_ f3_; subst f4_; subst f5_))
  obtain ⟨Ao16, co16, eo16⟩ := Kd.R_slice HO760.out
  (first | subst eo16 | (injection eo16 with f1_ f2_ f3_; have f4_ := f1_.symm; have f5_ := f3_.symm; clear f1_ f2_ f3_; subst f4_; subst f5_))
  obtain ⟨Ao18, co18, eo18⟩ := Kd.R_slice HO763.out
  (first | subst eo18 | (injection eo18 with f1_ f2_ f3_; have f4_ := f1_.symm; have f5_ := f3_.symm; clear f1_ f2_ f3_; subst f4_; subst f5_))
  obtain ⟨Ao21, co21, eo21⟩ := Kd.R_slice HO767.out
  (first | subst eo21 | (injection eo21 with f1_ f2_ f3_; have f4_ := f1_.symm; have f5_ := f3_.symm; clear f1_ f2_ f3_; subst f4_; subst f5_))
  obtain ⟨Ao23, co23, eo23⟩ := Kd.R_slice HO770.out
  (first | subst eo23 | (injection eo23 with f1_ f2_ f3_; have f4_ := f1_.symm; have f5_ := f3_.symm; clear f1_ f2_ f3_; subst f4_; subst f5_))
  obtain ⟨Ao25, co25, eo25⟩ := Kd.R_slice HO773.out
  (first | subst eo25 | (injection eo25 with f1_ f2_ f3_; have f4_ := f1_.symm; have f5_ := f3_.symm; clear f1_ f2_ f3_; subst f4_; subst f5_))
  obtain ⟨Ao27, co27, eo27⟩ := Kd.R_slice HO776.out
  (first | subst eo27 | (injection eo27 with f1_ f2_ f3_; have f4_ := f1_.symm; have f5_ := f3_.symm; clear f1_ f2_ f3_; subst f4_; subst f5_))
  refine hK.out _ _ ⟨(blk_cell BK746.out 0).trans rfl, (blk_cell BK746.out 1).trans rfl, (blk_cell BK746.out 2).trans rfl, (blk_cell BK746.out 3).trans rfl, (blk_cell BK746.out 4).trans rfl, (blk_cell BK746.out 5).trans rfl, (blk_cell BK746.out 6).trans rfl, (blk_cell BK746.out 7).trans rfl, (blk_cell BK746.out 8).trans rfl, (blk_cell BK746.out 9).trans rfl, (blk_cell BK746.out 10).trans rfl, (blk_cell BK746.out 11).trans rfl, (blk_cell BK746.out 12).trans rfl⟩ (fun hHeld => ?_)
  clear hK K
  refine norm_ (a' := ?_) ?_ ?_
  rotate_left
  · show Act.put _ (some 9) _ = _
    simp only [Act.put, List.setIfInBounds_toArray, List.set_cons_zero, List.set_cons_succ, i64_w, i32_w]
    rfl
  refine one_ (i := 6) (N := none) #[true, true, true, true, true, true, true, false] rfl rfl (one_of HT_.out (by kernel_rfl)) (by decide) (fun K hK => ?_)
  have hs11 : w9.cell? ⟨gb747, 0, none⟩ = some (.slice none 0 0) := (blk_cell BK747.out 0).trans rfl
  have hfs11 := blk_frozen BK747.out 0
  have hns11_0 := NB746_747.out
  have hns11_2 := NB748_747.out
  have hms11_0 := NB747_746.out
  have hms11_2 := NB747_748.out
  have hs13 : w9.cell? ⟨gb747, 1, none⟩ = some (.slice none 0 0) := (blk_cell BK747.out 1).trans rfl
  have hfs13 := blk_frozen BK747.out 1
  have hns13_0 := NB746_747.out
  have hns13_2 := NB748_747.out
  have hms13_0 := NB747_746.out
  have hms13_2 := NB747_748.out
  have hs15 : w9.cell? ⟨gb747, 2, none⟩ = some (.slice none 0 0) := (blk_cell BK747.out 2).trans rfl
  have hfs15 := blk_frozen BK747.out 2
  have hns15_0 := NB746_747.out
  have hns15_2 := NB748_747.out
  have hms15_0 := NB747_746.out
  have hms15_2 := NB747_748.out
  have hs17 : w9.cell? ⟨gb747, 3, none⟩ = some (.slice none 0 0) := (blk_cell BK747.out 3).trans rfl
  have hfs17 := blk_frozen BK747.out 3
  have hns17_0 := NB746_747.out
  have hns17_2 := NB748_747.out
  have hms17_0 := NB747_746.out
  have hms17_2 := NB747_748.out
  have hs19 : w9.cell? ⟨gb747, 4, none⟩ = some (.slice none 0 0) := (blk_cell BK747.out 4).trans rfl
  have hfs19 := blk_frozen BK747.out 4
  have hns19_0 := NB746_747.out
  have hns19_2 := NB748_747.out
  have hms19_0 := NB747_746.out
  have hms19_2 := NB747_748.out
  refine skip_ (w1 := ?_) (by rfl) rfl ?_ ?_
  rotate_left
  · go_simp
    rfl
  refine hK.out _ _ ⟨((cell_far (p := ⟨gb747, _, none⟩) NB746_747.out _).trans (((cell_far (p := ⟨gb747, _, none⟩) NB746_747.out _).trans (((cell_far (p := ⟨gb747, _, none⟩) NB746_747.out _).trans (((cell_far (p := ⟨gb747, _, none⟩) NB746_747.out _).trans (((cell_far (p := ⟨gb747, _, none⟩) NB746_747.out _).trans (hHeld.1)))))))))), ((cell_far (p := ⟨gb747, _, none⟩) NB746_747.out _).trans (((cell_far (p := ⟨gb747, _, none⟩) NB746_747.out _).trans (((cell_far (p := ⟨gb747, _, none⟩) NB746_747.out _).trans (((cell_far (p := ⟨gb747, _, none⟩) NB746_747.out _).trans (((cell_far (p := ⟨gb747, _, none⟩) NB746_747.out _).trans (hHeld.2.1)))))))))), ((cell_far (p := ⟨gb747, _, none⟩) NB746_747.out _).trans (((cell_far (p := ⟨gb747, _, none⟩) NB746_747.out _).trans (((cell_far (p := ⟨gb747, _, none⟩) NB746_747.out _).trans (((cell_far (p := ⟨gb747, _, none⟩) NB746_747.out _).trans (((cell_far (p := ⟨gb747, _, none⟩) NB746_747.out _).trans (hHeld.2.2.1)))))))))), ((cell_far (p := ⟨gb747, _, none⟩) NB746_747.out _).trans (((cell_far (p := ⟨gb747, _, none⟩) NB746_747.out _).trans (((cell_far (p := ⟨gb747, _, none⟩) NB746_747.out _).trans (((cell_far (p := ⟨gb747, _, none⟩) NB746_747.out _).trans (((cell_far (p := ⟨gb747, _, none⟩) NB746_747.out _).trans (hHeld.2.2.2.1)))))))))), ((cell_far (p := ⟨gb747, _, none⟩) NB746_747.out _).trans (((cell_far (p := ⟨gb747, _, none⟩) NB746_747.out _).trans (((cell_far (p := ⟨gb747, _, none⟩) NB746_747.out _).trans (((cell_far (p := ⟨gb747, _, none⟩) NB746_747.out _).trans (((cell_far (p := ⟨gb747, _, none⟩) NB746_747.out _).trans (hHeld.2.2.2.2.1)))))))))), ((cell_far (p := ⟨gb747, _, none⟩) NB746_747.out _).trans (((cell_far (p := ⟨gb747, _, none⟩) NB746_747.out _).trans (((cell_far (p := ⟨gb747, _, none⟩) NB746_747.out _).trans (((cell_far (p := ⟨gb747, _, none⟩) NB746_747.out _).trans (((cell_far (p := ⟨gb747, _, none⟩) NB746_747.out _).trans (hHeld.2.2.2.2.2.1)))))))))), ((cell_far (p := ⟨gb747, _, none⟩) NB746_747.out _).trans (((cell_far (p := ⟨gb747, _, none⟩) NB746_747.out _).trans (((cell_far (p := ⟨gb747, _, none⟩) NB746_747.out _).trans (((cell_far (p := ⟨gb747, _, none⟩) NB746_747.out _).trans (((cell_far (p := ⟨gb747, _, none⟩) NB746_747.out _).trans (hHeld.2.2.2.2.2.2.1)))))))))), ((cell_far (p := ⟨gb747, _, none⟩) NB746_747.out _).trans (((cell_far (p := ⟨gb747, _, none⟩) NB746_747.out _).trans (((cell_far (p := ⟨gb747, _, none⟩) NB746_747.out _).trans (((cell_far (p := ⟨gb747, _, none⟩) NB746_747.out _).trans (((cell_far (p := ⟨gb747, _, none⟩) NB746_747.out _).trans (hHeld.2.2.2.2.2.2.2.1)))))))))), ((cell_far (p := ⟨gb747, _, none⟩) NB746_747.out _).trans (((cell_far (p := ⟨gb747, _, none⟩) NB746_747.out _).trans (((cell_far (p := ⟨gb747, _, none⟩) NB746_747.out _).trans (((cell_far (p := ⟨gb747, _, none⟩) NB746_747.out _).trans (((cell_far (p := ⟨gb747, _, none⟩) NB746_747.out _).trans (hHeld.2.2.2.2.2.2.2.2.1)))))))))), ((cell_far (p := ⟨gb747, _, none⟩) NB746_747.out _).trans (((cell_far (p := ⟨gb747, _, none⟩) NB746_747.out _).trans (((cell_far (p := ⟨gb747, _, none⟩) NB746_747.out _).trans (((cell_far (p := ⟨gb747, _, none⟩) NB746_747.out _).trans (((cell_far (p := ⟨gb747, _, none⟩) NB746_747.out _).trans (hHeld.2.2.2.2.2.2.2.2.2.1)))))))))), ((cell_far (p := ⟨gb747, _, none⟩) NB746_747.out _).trans (((cell_far (p := ⟨gb747, _, none⟩) NB746_747.out _).trans (((cell_far (p := ⟨gb747, _, none⟩) NB746_747.out _).trans (((cell_far (p := ⟨gb747, _, none⟩) NB746_747.out _).trans (((cell_far (p := ⟨gb747, _, none⟩) NB746_747.out _).trans (hHeld.2.2.2.2.2.2.2.2.2.2.1)))))))))), ((cell_far (p := ⟨gb747, _, none⟩) NB746_747.out _).trans (((cell_far (p := ⟨gb747, _, none⟩) NB746_747.out _).trans (((cell_far (p := ⟨gb747, _, none⟩) NB746_747.out _).trans (((cell_far (p := ⟨gb747, _, none⟩) NB746_747.out _).trans (((cell_far (p := ⟨gb747, _, none⟩) NB746_747.out _).trans (hHeld.2.2.2.2.2.2.2.2.2.2.2.1)))))))))), ((cell_far (p := ⟨gb747, _, none⟩) NB746_747.out _).trans (((cell_far (p := ⟨gb747, _, none⟩) NB746_747.out _).trans (((cell_far (p := ⟨gb747, _, none⟩) NB746_747.out _).trans (((cell_far (p := ⟨gb747, _, none⟩) NB746_747.out _).trans (((cell_far (p := ⟨gb747, _, none⟩) NB746_747.out _).trans (hHeld.2.2.2.2.2.2.2.2.2.2.2.2))))))))))⟩ (fun hHeld => ?_)
  clear hK K
  refine one_ (i := 7) (N := none) #[true, true, true, true, true, true, true, true] rfl rfl (one_of HT_.out (by kernel_rfl)) (by decide) (fun K hK => ?_)
  have hs20 : w9.cell? ⟨gb748, 0, none⟩ = some (.int .i64 0) := (blk_cell BK748.out 0).trans rfl
  have hfs20 := blk_frozen BK748.out 0
  have hns20_0 := NB746_748.out
  have hns20_1 := NB747_748.out
  have hms20_0 := NB748_746.out
  have hms20_1 := NB748_747.out
  have hs22 : w9.cell? ⟨gb748, 1, none⟩ = some (.slice none 0 0) := (blk_cell BK748.out 1).trans rfl
  have hfs22 := blk_frozen BK748.out 1
  have hns22_0 := NB746_748.out
  have hns22_1 := NB747_748.out
  have hms22_0 := NB748_746.out
  have hms22_1 := NB748_747.out
  have hs24 : w9.cell? ⟨gb748, 2, none⟩ = some (.slice none 0 0) := (blk_cell BK748.out 2).trans rfl
  have hfs24 := blk_frozen BK748.out 2
  have hns24_0 := NB746_748.out
  have hns24_1 := NB747_748.out
  have hms24_0 := NB748_746.out
  have hms24_1 := NB748_747.out
  have hs26 : w9.cell? ⟨gb748, 3, none⟩ = some (.slice none 0 0) := (blk_cell BK748.out 3).trans rfl
  have hfs26 := blk_frozen BK748.out 3
  have hns26_0 := NB746_748.out
  have hns26_1 := NB747_748.out
  have hms26_0 := NB748_746.out
  have hms26_1 := NB748_747.out
  have hs28 : w9.cell? ⟨gb748, 4, none⟩ = some (.slice none 0 0) := (blk_cell BK748.out 4).trans rfl
  have hfs28 := blk_frozen BK748.out 4
  have hns28_0 := NB746_748.out
  have hns28_1 := NB747_748.out
  have hms28_0 := NB748_746.out
  have hms28_1 := NB748_747.out
  refine skip_ (w1 := ?_) (by rfl) rfl ?_ ?_
  rotate_left
  · go_simp
    rfl
  refine hK.out _ _ ⟨((cell_far (p := ⟨gb748, _, none⟩) NB746_748.out _).trans (((cell_far (p := ⟨gb748, _, none⟩) NB746_748.out _).trans (((cell_far (p := ⟨gb748, _, none⟩) NB746_748.out _).trans (((cell_far (p := ⟨gb748, _, none⟩) NB746_748.out _).trans (((cell_far (p := ⟨gb748, _, none⟩) NB746_748.out _).trans (hHeld.1)))))))))), ((cell_far (p := ⟨gb748, _, none⟩) NB746_748.out _).trans (((cell_far (p := ⟨gb748, _, none⟩) NB746_748.out _).trans (((cell_far (p := ⟨gb748, _, none⟩) NB746_748.out _).trans (((cell_far (p := ⟨gb748, _, none⟩) NB746_748.out _).trans (((cell_far (p := ⟨gb748, _, none⟩) NB746_748.out _).trans (hHeld.2.1)))))))))), ((cell_far (p := ⟨gb748, _, none⟩) NB746_748.out _).trans (((cell_far (p := ⟨gb748, _, none⟩) NB746_748.out _).trans (((cell_far (p := ⟨gb748, _, none⟩) NB746_748.out _).trans (((cell_far (p := ⟨gb748, _, none⟩) NB746_748.out _).trans (((cell_far (p := ⟨gb748, _, none⟩) NB746_748.out _).trans (hHeld.2.2.1)))))))))), ((cell_far (p := ⟨gb748, _, none⟩) NB746_748.out _).trans (((cell_far (p := ⟨gb748, _, none⟩) NB746_748.out _).trans (((cell_far (p := ⟨gb748, _, none⟩) NB746_748.out _).trans (((cell_far (p := ⟨gb748, _, none⟩) NB746_748.out _).trans (((cell_far (p := ⟨gb748, _, none⟩) NB746_748.out _).trans (hHeld.2.2.2.1)))))))))), ((cell_far (p := ⟨gb748, _, none⟩) NB746_748.out _).trans (((cell_far (p := ⟨gb748, _, none⟩) NB746_748.out _).trans (((cell_far (p := ⟨gb748, _, none⟩) NB746_748.out _).trans (((cell_far (p := ⟨gb748, _, none⟩) NB746_748.out _).trans (((cell_far (p := ⟨gb748, _, none⟩) NB746_748.out _).trans (hHeld.2.2.2.2.1)))))))))), ((cell_far (p := ⟨gb748, _, none⟩) NB746_748.out _).trans (((cell_far (p := ⟨gb748, _, none⟩) NB746_748.out _).trans (((cell_far (p := ⟨gb748, _, none⟩) NB746_748.out _).trans (((cell_far (p := ⟨gb748, _, none⟩) NB746_748.out _).trans (((cell_far (p := ⟨gb748, _, none⟩) NB746_748.out _).trans (hHeld.2.2.2.2.2.1)))))))))), ((cell_far (p := ⟨gb748, _, none⟩) NB746_748.out _).trans (((cell_far (p := ⟨gb748, _, none⟩) NB746_748.out _).trans (((cell_far (p := ⟨gb748, _, none⟩) NB746_748.out _).trans (((cell_far (p := ⟨gb748, _, none⟩) NB746_748.out _).trans (((cell_far (p := ⟨gb748, _, none⟩) NB746_748.out _).trans (hHeld.2.2.2.2.2.2.1)))))))))), ((cell_far (p := ⟨gb748, _, none⟩) NB746_748.out _).trans (((cell_far (p := ⟨gb748, _, none⟩) NB746_748.out _).trans (((cell_far (p := ⟨gb748, _, none⟩) NB746_748.out _).trans (((cell_far (p := ⟨gb748, _, none⟩) NB746_748.out _).trans (((cell_far (p := ⟨gb748, _, none⟩) NB746_748.out _).trans (hHeld.2.2.2.2.2.2.2.1)))))))))), ((cell_far (p := ⟨gb748, _, none⟩) NB746_748.out _).trans (((cell_far (p := ⟨gb748, _, none⟩) NB746_748.out _).trans (((cell_far (p := ⟨gb748, _, none⟩) NB746_748.out _).trans (((cell_far (p := ⟨gb748, _, none⟩) NB746_748.out _).trans (((cell_far (p := ⟨gb748, _, none⟩) NB746_748.out _).trans (hHeld.2.2.2.2.2.2.2.2.1)))))))))), ((cell_far (p := ⟨gb748, _, none⟩) NB746_748.out _).trans (((cell_far (p := ⟨gb748, _, none⟩) NB746_748.out _).trans (((cell_far (p := ⟨gb748, _, none⟩) NB746_748.out _).trans (((cell_far (p := ⟨gb748, _, none⟩) NB746_748.out _).trans (((cell_far (p := ⟨gb748, _, none⟩) NB746_748.out _).trans (hHeld.2.2.2.2.2.2.2.2.2.1)))))))))), ((cell_far (p := ⟨gb748, _, none⟩) NB746_748.out _).trans (((cell_far (p := ⟨gb748, _, none⟩) NB746_748.out _).trans (((cell_far (p := ⟨gb748, _, none⟩) NB746_748.out _).trans (((cell_far (p := ⟨gb748, _, none⟩) NB746_748.out _).trans (((cell_far (p := ⟨gb748, _, none⟩) NB746_748.out _).trans (hHeld.2.2.2.2.2.2.2.2.2.2.1)))))))))), ((cell_far (p := ⟨gb748, _, none⟩) NB746_748.out _).trans (((cell_far (p := ⟨gb748, _, none⟩) NB746_748.out _).trans (((cell_far (p := ⟨gb748, _, none⟩) NB746_748.out _).trans (((cell_far (p := ⟨gb748, _, none⟩) NB746_748.out _).trans (((cell_far (p := ⟨gb748, _, none⟩) NB746_748.out _).trans (hHeld.2.2.2.2.2.2.2.2.2.2.2.1)))))))))), ((cell_far (p := ⟨gb748, _, none⟩) NB746_748.out _).trans (((cell_far (p := ⟨gb748, _, none⟩) NB746_748.out _).trans (((cell_far (p := ⟨gb748, _, none⟩) NB746_748.out _).trans (((cell_far (p := ⟨gb748, _, none⟩) NB746_748.out _).trans (((cell_far (p := ⟨gb748, _, none⟩) NB746_748.out _).trans (hHeld.2.2.2.2.2.2.2.2.2.2.2.2))))))))))⟩ (fun hHeld => ?_)
  clear hK K
  refine done_ (done_of HT_.out (by kernel_rfl)) ?_
  try go_wp2
  refine bodyPost_ret (results_cc rfl _ _ gb747 gb748 27 53 #[.slice Ao10 t749.length co10, .slice Ao12 t752.length co12, .slice Ao14 t755.length co14, .slice Ao16 t758.length co16, .slice Ao18 t761.length co18] #[.int .i64 t764, .slice Ao21 t765.length co21, .slice Ao23 t768.length co23, .slice Ao25 t771.length co25, .slice Ao27 t774.length co27] (0, 0) (0, 0) _ _ rfl (by (with_reducible repeat (first | refine blk_drewN ?_ _ | refine blk_drew ?_ | refine blk_alloc ?_ _)); refine blk_far ?_ NB747_748.out _; (with_reducible repeat (first | refine blk_drewN ?_ _ | refine blk_drew ?_ | refine blk_alloc ?_ _)); refine blk_far ?_ NB747_748.out _; (with_reducible repeat (first | refine blk_drewN ?_ _ | refine blk_drew ?_ | refine blk_alloc ?_ _)); refine blk_far ?_ NB747_748.out _; (with_reducible repeat (first | refine blk_drewN ?_ _ | refine blk_drew ?_ | refine blk_alloc ?_ _)); refine blk_far ?_ NB747_748.out _; (with_reducible repeat (first | refine blk_drewN ?_ _ | refine blk_drew ?_ | refine blk_alloc ?_ _)); refine blk_far ?_ NB747_748.out _; (with_reducible repeat (first | refine blk_drewN ?_ _ | refine blk_drew ?_ | refine blk_alloc ?_ _)); refine blk_put (cs := #[.slice Ao10 t749.length co10, .slice Ao12 t752.length co12, .slice Ao14 t755.length co14, .slice Ao16 t758.length co16, .slice none 0 0]) ?_ 4 _ rfl; (with_reducible repeat (first | refine blk_drewN ?_ _ | refine blk_drew ?_ | refine blk_alloc ?_ _)); refine blk_put (cs := #[.slice Ao10 t749.length co10, .slice Ao12 t752.length co12, .slice Ao14 t755.length co14, .slice none 0 0, .slice none 0 0]) ?_ 3 _ rfl; (with_reducible repeat (first | refine blk_drewN ?_ _ | refine blk_drew ?_ | refine blk_alloc ?_ _)); refine blk_put (cs := #[.slice Ao10 t749.length co10, .slice Ao12 t752.length co12, .slice none 0 0, .slice none 0 0, .slice none 0 0]) ?_ 2 _ rfl; (with_reducible repeat (first | refine blk_drewN ?_ _ | refine blk_drew ?_ | refine blk_alloc ?_ _)); refine blk_put (cs := #[.slice Ao10 t749.length co10, .slice none 0 0, .slice none 0 0, .slice none 0 0, .slice none 0 0]) ?_ 1 _ rfl; (with_reducible repeat (first | refine blk_drewN ?_ _ | refine blk_drew ?_ | refine blk_alloc ?_ _)); refine blk_put (cs := #[.slice none 0 0, .slice none 0 0, .slice none 0 0, .slice none 0 0, .slice none 0 0]) ?_ 0 _ rfl; (with_reducible repeat (first | refine blk_drewN ?_ _ | refine blk_drew ?_ | refine blk_alloc ?_ _)); exact BK747.out) Tryd.underlying27 rfl (by kernel_rfl) rfl (by (with_reducible repeat (first | refine blk_drewN ?_ _ | refine blk_drew ?_ | refine blk_alloc ?_ _)); refine blk_put (cs := #[.int .i64 t764, .slice Ao21 t765.length co21, .slice Ao23 t768.length co23, .slice Ao25 t771.length co25, .slice none 0 0]) ?_ 4 _ rfl; (with_reducible repeat (first | refine blk_drewN ?_ _ | refine blk_drew ?_ | refine blk_alloc ?_ _)); refine blk_put (cs := #[.int .i64 t764, .slice Ao21 t765.length co21, .slice Ao23 t768.length co23, .slice none 0 0, .slice none 0 0]) ?_ 3 _ rfl; (with_reducible repeat (first | refine blk_drewN ?_ _ | refine blk_drew ?_ | refine blk_alloc ?_ _)); refine blk_put (cs := #[.int .i64 t764, .slice Ao21 t765.length co21, .slice none 0 0, .slice none 0 0, .slice none 0 0]) ?_ 2 _ rfl; (with_reducible repeat (first | refine blk_drewN ?_ _ | refine blk_drew ?_ | refine blk_alloc ?_ _)); refine blk_put (cs := #[.int .i64 t764, .slice none 0 0, .slice none 0 0, .slice none 0 0, .slice none 0 0]) ?_ 1 _ rfl; (with_reducible repeat (first | refine blk_drewN ?_ _ | refine blk_drew ?_ | refine blk_alloc ?_ _)); refine blk_put (cs := #[.int .i64 0, .slice none 0 0, .slice none 0 0, .slice none 0 0, .slice none 0 0]) ?_ 0 _ rfl; (with_reducible repeat (first | refine blk_drewN ?_ _ | refine blk_drew ?_ | refine blk_alloc ?_ _)); refine blk_far ?_ NB748_747.out _; (with_reducible repeat (first | refine blk_drewN ?_ _ | refine blk_drew ?_ | refine blk_alloc ?_ _)); refine blk_far ?_ NB748_747.out _; (with_reducible repeat (first | refine blk_drewN ?_ _ | refine blk_drew ?_ | refine blk_alloc ?_ _)); refine blk_far ?_ NB748_747.out _; (with_reducible repeat (first | refine blk_drewN ?_ _ | refine blk_drew ?_ | refine blk_alloc ?_ _)); refine blk_far ?_ NB748_747.out _; (with_reducible repeat (first | refine blk_drewN ?_ _ | refine blk_drew ?_ | refine blk_alloc ?_ _)); refine blk_far ?_ NB748_747.out _; (with_reducible repeat (first | refine blk_drewN ?_ _ | refine blk_drew ?_ | refine blk_alloc ?_ _)); exact BK748.out) Tryd.underlying53 rfl (by kernel_rfl)) rfl ?_
  exact ⟨_, _, _, _, _, _, _, _, _, by first | rfl | (simp [errW_none, errW_some] <;> rfl) | (simp [*, errW_none, errW_some] <;> rfl), by (with_reducible repeat (first | apply Kd.R_alloc | apply Kd.R_drewN | apply Kd.R_drew)); exact Kd.R_mono (Kd.R_far (p := ⟨gb748, 4, none⟩) (Kd.R_far (p := ⟨gb748, 3, none⟩) (Kd.R_far (p := ⟨gb748, 2, none⟩) (Kd.R_far (p := ⟨gb748, 1, none⟩) (Kd.R_far (p := ⟨gb748, 0, none⟩) (Kd.R_far (p := ⟨gb747, 4, none⟩) (Kd.R_far (p := ⟨gb747, 3, none⟩) (Kd.R_far (p := ⟨gb747, 2, none⟩) (Kd.R_far (p := ⟨gb747, 1, none⟩) (Kd.R_far (p := ⟨gb747, 0, none⟩) (Kd.R_types (Kd.R_types HO751.out BK747.out (by decide)) BK748.out (by decide)) (fun _ hk => hk.1.2) (.slice Ao10 t749.length co10)) (fun _ hk => hk.1.2) (.slice Ao12 t752.length co12)) (fun _ hk => hk.1.2) (.slice Ao14 t755.length co14)) (fun _ hk => hk.1.2) (.slice Ao16 t758.length co16)) (fun _ hk => hk.1.2) (.slice Ao18 t761.length co18)) (fun _ hk => hk.2) (.int .i64 t764)) (fun _ hk => hk.2) (.slice Ao21 t765.length co21)) (fun _ hk => hk.2) (.slice Ao23 t768.length co23)) (fun _ hk => hk.2) (.slice Ao25 t771.length co25)) (fun _ hk => hk.2) (.slice Ao27 t774.length co27)) (fun _ hk => trivial), by (with_reducible repeat (first | apply Kd.R_alloc | apply Kd.R_drewN | apply Kd.R_drew)); exact Kd.R_mono (Kd.R_far (p := ⟨gb748, 4, none⟩) (Kd.R_far (p := ⟨gb748, 3, none⟩) (Kd.R_far (p := ⟨gb748, 2, none⟩) (Kd.R_far (p := ⟨gb748, 1, none⟩) (Kd.R_far (p := ⟨gb748, 0, none⟩) (Kd.R_far (p := ⟨gb747, 4, none⟩) (Kd.R_far (p := ⟨gb747, 3, none⟩) (Kd.R_far (p := ⟨gb747, 2, none⟩) (Kd.R_far (p := ⟨gb747, 1, none⟩) (Kd.R_far (p := ⟨gb747, 0, none⟩) (Kd.R_types (Kd.R_types HO754.out BK747.out (by decide)) BK748.out (by decide)) (fun _ hk => hk.1.2) (.slice Ao10 t749.length co10)) (fun _ hk => hk.1.2) (.slice Ao12 t752.length co12)) (fun _ hk => hk.1.2) (.slice Ao14 t755.length co14)) (fun _ hk => hk.1.2) (.slice Ao16 t758.length co16)) (fun _ hk => hk.1.2) (.slice Ao18 t761.length co18)) (fun _ hk => hk.2) (.int .i64 t764)) (fun _ hk => hk.2) (.slice Ao21 t765.length co21)) (fun _ hk => hk.2) (.slice Ao23 t768.length co23)) (fun _ hk => hk.2) (.slice Ao25 t771.length co25)) (fun _ hk => hk.2) (.slice Ao27 t774.length co27)) (fun _ hk => hk.1.1), by (with_reducible repeat (first | apply Kd.R_alloc | apply Kd.R_drewN | apply Kd.R_drew)); exact Kd.R_mono (Kd.R_far (p := ⟨gb748, 4, none⟩) (Kd.R_far (p := ⟨gb748, 3, none⟩) (Kd.R_far (p := ⟨gb748, 2, none⟩) (Kd.R_far (p := ⟨gb748, 1, none⟩) (Kd.R_far (p := ⟨gb748, 0, none⟩) (Kd.R_far (p := ⟨gb747, 4, none⟩) (Kd.R_far (p := ⟨gb747, 3, none⟩) (Kd.R_far (p := ⟨gb747, 2, none⟩) (Kd.R_far (p := ⟨gb747, 1, none⟩) (Kd.R_far (p := ⟨gb747, 0, none⟩) (Kd.R_types (Kd.R_types HO757.out BK747.out (by decide)) BK748.out (by decide)) (fun _ hk => hk.1.2) (.slice Ao10 t749.length co10)) (fun _ hk => hk.1.2) (.slice Ao12 t752.length co12)) (fun _ hk => hk.1.2) (.slice Ao14 t755.length co14)) (fun _ hk => hk.1.2) (.slice Ao16 t758.length co16)) (fun _ hk => hk.1.2) (.slice Ao18 t761.length co18)) (fun _ hk => hk.2) (.int .i64 t764)) (fun _ hk => hk.2) (.slice Ao21 t765.length co21)) (fun _ hk => hk.2) (.slice Ao23 t768.length co23)) (fun _ hk => hk.2) (.slice Ao25 t771.length co25)) (fun _ hk => hk.2) (.slice Ao27 t774.length co27)) (fun _ hk => trivial), by (with_reducible repeat (first | apply Kd.R_alloc | apply Kd.R_drewN | apply Kd.R_drew)); exact Kd.R_mono (Kd.R_far (p := ⟨gb748, 4, none⟩) (Kd.R_far (p := ⟨gb748, 3, none⟩) (Kd.R_far (p := ⟨gb748, 2, none⟩) (Kd.R_far (p := ⟨gb748, 1, none⟩) (Kd.R_far (p := ⟨gb748, 0, none⟩) (Kd.R_far (p := ⟨gb747, 4, none⟩) (Kd.R_far (p := ⟨gb747, 3, none⟩) (Kd.R_far (p := ⟨gb747, 2, none⟩) (Kd.R_far (p := ⟨gb747, 1, none⟩) (Kd.R_far (p := ⟨gb747, 0, none⟩) (Kd.R_types (Kd.R_types HO760.out BK747.out (by decide)) BK748.out (by decide)) (fun _ hk => hk.1.2) (.slice Ao10 t749.length co10)) (fun _ hk => hk.1.2) (.slice Ao12 t752.length co12)) (fun _ hk => hk.1.2) (.slice Ao14 t755.length co14)) (fun _ hk => hk.1.2) (.slice Ao16 t758.length co16)) (fun _ hk => hk.1.2) (.slice Ao18 t761.length co18)) (fun _ hk => hk.2) (.int .i64 t764)) (fun _ hk => hk.2) (.slice Ao21 t765.length co21)) (fun _ hk => hk.2) (.slice Ao23 t768.length co23)) (fun _ hk => hk.2) (.slice Ao25 t771.length co25)) (fun _ hk => hk.2) (.slice Ao27 t774.length co27)) (fun _ hk => trivial), by (with_reducible repeat (first | apply Kd.R_alloc | apply Kd.R_drewN | apply Kd.R_drew)); exact Kd.R_mono (Kd.R_far (p := ⟨gb748, 4, none⟩) (Kd.R_far (p := ⟨gb748, 3, none⟩) (Kd.R_far (p := ⟨gb748, 2, none⟩) (Kd.R_far (p := ⟨gb748, 1, none⟩) (Kd.R_far (p := ⟨gb748, 0, none⟩) (Kd.R_far (p := ⟨gb747, 4, none⟩) (Kd.R_far (p := ⟨gb747, 3, none⟩) (Kd.R_far (p := ⟨gb747, 2, none⟩) (Kd.R_far (p := ⟨gb747, 1, none⟩) (Kd.R_far (p := ⟨gb747, 0, none⟩) (Kd.R_types (Kd.R_types HO763.out BK747.out (by decide)) BK748.out (by decide)) (fun _ hk => hk.1.2) (.slice Ao10 t749.length co10)) (fun _ hk => hk.1.2) (.slice Ao12 t752.length co12)) (fun _ hk => hk.1.2) (.slice Ao14 t755.length co14)) (fun _ hk => hk.1.2) (.slice Ao16 t758.length co16)) (fun _ hk => hk.1.2) (.slice Ao18 t761.length co18)) (fun _ hk => hk.2) (.int .i64 t764)) (fun _ hk => hk.2) (.slice Ao21 t765.length co21)) (fun _ hk => hk.2) (.slice Ao23 t768.length co23)) (fun _ hk => hk.2) (.slice Ao25 t771.length co25)) (fun _ hk => hk.2) (.slice Ao27 t774.length co27)) (fun _ hk => hk.1.1), by (with_reducible repeat (first | apply Kd.R_alloc | apply Kd.R_drewN | apply Kd.R_drew)); exact Kd.R_mono (Kd.R_far (p := ⟨gb748, 4, none⟩) (Kd.R_far (p := ⟨gb748, 3, none⟩) (Kd.R_far (p := ⟨gb748, 2, none⟩) (Kd.R_far (p := ⟨gb748, 1, none⟩) (Kd.R_far (p := ⟨gb748, 0, none⟩) (Kd.R_far (p := ⟨gb747, 4, none⟩) (Kd.R_far (p := ⟨gb747, 3, none⟩) (Kd.R_far (p := ⟨gb747, 2, none⟩) (Kd.R_far (p := ⟨gb747, 1, none⟩) (Kd.R_far (p := ⟨gb747, 0, none⟩) (Kd.R_types (Kd.R_types HO767.out BK747.out (by decide)) BK748.out (by decide)) (fun _ hk => hk.1.2) (.slice Ao10 t749.length co10)) (fun _ hk => hk.1.2) (.slice Ao12 t752.length co12)) (fun _ hk => hk.1.2) (.slice Ao14 t755.length co14)) (fun _ hk => hk.1.2) (.slice Ao16 t758.length co16)) (fun _ hk => hk.1.2) (.slice Ao18 t761.length co18)) (fun _ hk => hk.2) (.int .i64 t764)) (fun _ hk => hk.2) (.slice Ao21 t765.length co21)) (fun _ hk => hk.2) (.slice Ao23 t768.length co23)) (fun _ hk => hk.2) (.slice Ao25 t771.length co25)) (fun _ hk => hk.2) (.slice Ao27 t774.length co27)) (fun _ hk => trivial), by (with_reducible repeat (first | apply Kd.R_alloc | apply Kd.R_drewN | apply Kd.R_drew)); exact Kd.R_mono (Kd.R_far (p := ⟨gb748, 4, none⟩) (Kd.R_far (p := ⟨gb748, 3, none⟩) (Kd.R_far (p := ⟨gb748, 2, none⟩) (Kd.R_far (p := ⟨gb748, 1, none⟩) (Kd.R_far (p := ⟨gb748, 0, none⟩) (Kd.R_far (p := ⟨gb747, 4, none⟩) (Kd.R_far (p := ⟨gb747, 3, none⟩) (Kd.R_far (p := ⟨gb747, 2, none⟩) (Kd.R_far (p := ⟨gb747, 1, none⟩) (Kd.R_far (p := ⟨gb747, 0, none⟩) (Kd.R_types (Kd.R_types HO770.out BK747.out (by decide)) BK748.out (by decide)) (fun _ hk => hk.1.2) (.slice Ao10 t749.length co10)) (fun _ hk => hk.1.2) (.slice Ao12 t752.length co12)) (fun _ hk => hk.1.2) (.slice Ao14 t755.length co14)) (fun _ hk => hk.1.2) (.slice Ao16 t758.length co16)) (fun _ hk => hk.1.2) (.slice Ao18 t761.length co18)) (fun _ hk => hk.2) (.int .i64 t764)) (fun _ hk => hk.2) (.slice Ao21 t765.length co21)) (fun _ hk => hk.2) (.slice Ao23 t768.length co23)) (fun _ hk => hk.2) (.slice Ao25 t771.length co25)) (fun _ hk => hk.2) (.slice Ao27 t774.length co27)) (fun _ hk => trivial), by (with_reducible repeat (first | apply Kd.R_alloc | apply Kd.R_drewN | apply Kd.R_drew)); exact Kd.R_mono (Kd.R_far (p := ⟨gb748, 4, none⟩) (Kd.R_far (p := ⟨gb748, 3, none⟩) (Kd.R_far (p := ⟨gb748, 2, none⟩) (Kd.R_far (p := ⟨gb748, 1, none⟩) (Kd.R_far (p := ⟨gb748, 0, none⟩) (Kd.R_far (p := ⟨gb747, 4, none⟩) (Kd.R_far (p := ⟨gb747, 3, none⟩) (Kd.R_far (p := ⟨gb747, 2, none⟩) (Kd.R_far (p := ⟨gb747, 1, none⟩) (Kd.R_far (p := ⟨gb747, 0, none⟩) (Kd.R_types (Kd.R_types HO773.out BK747.out (by decide)) BK748.out (by decide)) (fun _ hk => hk.1.2) (.slice Ao10 t749.length co10)) (fun _ hk => hk.1.2) (.slice Ao12 t752.length co12)) (fun _ hk => hk.1.2) (.slice Ao14 t755.length co14)) (fun _ hk => hk.1.2) (.slice Ao16 t758.length co16)) (fun _ hk => hk.1.2) (.slice Ao18 t761.length co18)) (fun _ hk => hk.2) (.int .i64 t764)) (fun _ hk => hk.2) (.slice Ao21 t765.length co21)) (fun _ hk => hk.2) (.slice Ao23 t768.length co23)) (fun _ hk => hk.2) (.slice Ao25 t771.length co25)) (fun _ hk => hk.2) (.slice Ao27 t774.length co27)) (fun _ hk => trivial), by (with_reducible repeat (first | apply Kd.R_alloc | apply Kd.R_drewN | apply Kd.R_drew)); exact Kd.R_mono (Kd.R_far (p := ⟨gb748, 4, none⟩) (Kd.R_far (p := ⟨gb748, 3, none⟩) (Kd.R_far (p := ⟨gb748, 2, none⟩) (Kd.R_far (p := ⟨gb748, 1, none⟩) (Kd.R_far (p := ⟨gb748, 0, none⟩) (Kd.R_far (p := ⟨gb747, 4, none⟩) (Kd.R_far (p := ⟨gb747, 3, none⟩) (Kd.R_far (p := ⟨gb747, 2, none⟩) (Kd.R_far (p := ⟨gb747, 1, none⟩) (Kd.R_far (p := ⟨gb747, 0, none⟩) (Kd.R_types (Kd.R_types HO776.out BK747.out (by decide)) BK748.out (by decide)) (fun _ hk => hk.1.2) (.slice Ao10 t749.length co10)) (fun _ hk => hk.1.2) (.slice Ao12 t752.length co12)) (fun _ hk => hk.1.2) (.slice Ao14 t755.length co14)) (fun _ hk => hk.1.2) (.slice Ao16 t758.length co16)) (fun _ hk => hk.1.2) (.slice Ao18 t761.length co18)) (fun _ hk => hk.2) (.int .i64 t764)) (fun _ hk => hk.2) (.slice Ao21 t765.length co21)) (fun _ hk => hk.2) (.slice Ao23 t768.length co23)) (fun _ hk => hk.2) (.slice Ao25 t771.length co25)) (fun _ hk => hk.2) (.slice Ao27 t774.length co27)) (fun _ hk => trivial), by repeat (first | (with_reducible first | exact HB.out | apply below_alloc | apply pw_below_drewN | apply below_drew1 | refine below_set ?_ GE746.out | refine below_set ?_ GE747.out | refine below_set ?_ GE748.out) | exact HB.out)⟩

-- NOT PRINTED: function 9 (proofmarklaw27_LiftBack)

-- NOT PRINTED: function 10 (proofmarklaw27_LiftReads)

-- NOT PRINTED: function 11 (proofmarklaw27_LiftLines)

-- NOT PRINTED: function 12 (proofmarklaw27_LiftParts)

end Go.Proofs.YtmfekngjhiofaaaDoor.Q
