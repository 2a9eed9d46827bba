-- Written by the session's own program (wip/tools/ownprint.py) for this claim: functions of the translation as plain Lean functions, and their contracts.
import Derived.Test.YtmfekngjhiofaaaGreatDoorQx0
import Derived.Test.YtmfekngjhiofaaaGreatDoorQx10
import Derived.Test.YtmfekngjhiofaaaGreatDoorQx11
import Derived.Test.YtmfekngjhiofaaaGreatDoorQx12
import Derived.Test.YtmfekngjhiofaaaGreatDoorHTab
namespace Go.Proofs.YtmfekngjhiofaaaGreatDoor.Q
open Go.RowKit Go.Proofs.YtmfekngjhiofaaaGreatDoorW.PrintWords Go.Proofs.YtmfekngjhiofaaaGreatDoorW.PrintLast Go.Proofs.YtmfekngjhiofaaaGreatDoorW.PrintMore
attribute [local go_sem] max2_int min2_int max_two min_two max_three min_three max_four min_four   -- for this text's walks alone
set_option linter.unusedVariables false
set_option linter.unusedSimpArgs false

-- BY HAND: function 19 (proofmarklaw30_head)

/-! ### proofmarkref30_Few: function 53 -/
def proofmarkref30_Few.l0 : Nat → Int → List (S125) → List (S72) → List (S114) → List (S105) → List (S72) → List (S125) → List (S72) → List (S114) → List (S105) → List (S72) → Option ((List (S125)) × (List (S72)) × (List (S114)) × (List (S105)) × (List (S72)))
  | 0, _, _, _, _, _, _, _, _, _, _, _ => none
  | k + 1, x4, x395000, x395001, x395002, x395003, x395004, x412000, x412001, x412002, x412003, x412004 => if x4 < (x395003.length : Int) then (if x4 < 40 then (if 0 ≤ x4 then (if 0 ≤ (mn (((rd_T105 x395003 x4).f1).size : Int) 12) then (if (mn (((rd_T105 x395003 x4).f1).size : Int) 12) ≤ (((rd_T105 x395003 x4).f1).size : Int) then (if x412003.length < 4398046511104 then (proofmarkref30_Few.l0 k (wrap64 (x4 + 1)) x395000 x395001 x395002 x395003 x395004 x412000 x412001 x412002 (x412003 ++ [(⟨(rd_T105 x395003 x4).f0, ((rd_T105 x395003 x4).f1).extract 0 ((mn (((rd_T105 x395003 x4).f1).size : Int) 12) : Int).toNat, (rd_T105 x395003 x4).f2⟩ : S105)]) x412004) else (none)) else (none)) else (none)) else (none)) else (some (x412000, x412001, x412002, x412003, x412004))) else (some (x412000, x412001, x412002, x412003, x412004))
def proofmarkref30_Few.f (k : Nat) (l0_0 : List (S125)) (l0_1 : List (S72)) (l0_2 : List (S114)) (l0_3 : List (S105)) (l0_4 : List (S72)) : Option ((List (S125)) × (List (S72)) × (List (S114)) × (List (S105)) × (List (S72))) := (proofmarkref27_Few.f k l0_0 l0_1 l0_2 l0_3 l0_4).bind fun bt396 => ((some (([] : List (S125)) : List (S125))).bind fun y412 => (if 0 ≤ (mn (l0_0.length : Int) 40) then (if (mn (l0_0.length : Int) 40) ≤ (l0_0.length : Int) then ((some (l0_0.take ((mn (l0_0.length : Int) 40) : Int).toNat : List (S125))).bind fun y415 => (if y412.length + y415.length < 2513169434916 then (proofmarkref30_Few.l0 k 0 l0_0 l0_1 l0_2 l0_3 l0_4 (y412 ++ y415) bt396.2.1 bt396.2.2.1 bt396.2.2.2.1 bt396.2.2.2.2) else (none))) else (none)) else (none)))
theorem proofmarkref30_Few.mono_l : ∀ k, (∀ y0 y1 y2 y3 y4 y5 y6 y7 y8 y9 y10, LeO (proofmarkref30_Few.l0 k y0 y1 y2 y3 y4 y5 y6 y7 y8 y9 y10) (proofmarkref30_Few.l0 (k + 1) y0 y1 y2 y3 y4 y5 y6 y7 y8 y9 y10))
  | 0 => fun _ _ _ _ _ _ _ _ _ _ _ r h => by simp [proofmarkref30_Few.l0] at h
  | k + 1 => by
    have ih0 := proofmarkref30_Few.mono_l k
    · intro y0 y1 y2 y3 y4 y5 y6 y7 y8 y9 y10
      unfold proofmarkref30_Few.l0
      repeat' first
      | (with_reducible exact ih0 _ _ _ _ _ _ _ _ _ _ _)
      | (with_reducible exact proofmarkref27_Few.mono _ _ _ _ _ _)
      | (with_reducible exact LeO.refl _)
      | (with_reducible exact LeO.none _)
      | (with_reducible refine LeO.ite ?_ ?_)
      | (with_reducible refine LeO.bind ?_ (fun _ => ?_))
      | exact ih0 _ _ _ _ _ _ _ _ _ _ _
      | exact proofmarkref27_Few.mono _ _ _ _ _ _
      | exact LeO.none _
      | refine LeO.ite ?_ ?_
      | refine LeO.bind ?_ (fun _ => ?_)
theorem proofmarkref30_Few.mono : ∀ a0 a1 a2 a3 a4 k, LeO (proofmarkref30_Few.f k a0 a1 a2 a3 a4) (proofmarkref30_Few.f (k + 1) a0 a1 a2 a3 a4) := by
  intro a0 a1 a2 a3 a4 k
  have ih0 := proofmarkref30_Few.mono_l k
  unfold proofmarkref30_Few.f
  repeat' first
      | (with_reducible exact ih0 _ _ _ _ _ _ _ _ _ _ _)
      | (with_reducible exact proofmarkref27_Few.mono _ _ _ _ _ _)
      | (with_reducible exact LeO.refl _)
      | (with_reducible exact LeO.none _)
      | (with_reducible refine LeO.ite ?_ ?_)
      | (with_reducible refine LeO.bind ?_ (fun _ => ?_))
      | exact ih0 _ _ _ _ _ _ _ _ _ _ _
      | exact proofmarkref27_Few.mono _ _ _ _ _ _
      | exact LeO.none _
      | refine LeO.ite ?_ ?_
      | refine LeO.bind ?_ (fun _ => ?_)
set_option maxHeartbeats 8000000 in
set_option maxRecDepth 100000 in
theorem proofmarkref30_Few.calls (k : Nat) (A0_0 : Option Addr) (c0_0 : Nat) (l0_0 : List (S125)) (A0_1 : Option Addr) (c0_1 : Nat) (l0_1 : List (S72)) (A0_2 : Option Addr) (c0_2 : Nat) (l0_2 : List (S114)) (A0_3 : Option Addr) (c0_3 : Nat) (l0_3 : List (S105)) (A0_4 : Option Addr) (c0_4 : Nat) (l0_4 : List (S72)) (r1 : List (S125)) (r2 : List (S72)) (r3 : List (S114)) (r4 : List (S105)) (r5 : List (S72)) (w : World) (hr0_0 : Kd.C k125 w A0_0 l0_0.length l0_0) (hc0_0 : l0_0.length ≤ c0_0) (hr0_1 : Kd.C k72 w A0_1 l0_1.length l0_1) (hc0_1 : l0_1.length ≤ c0_1) (hr0_2 : Kd.C k114 w A0_2 l0_2.length l0_2) (hc0_2 : l0_2.length ≤ c0_2) (hr0_3 : Kd.C k105 w A0_3 l0_3.length l0_3) (hc0_3 : l0_3.length ≤ c0_3) (hr0_4 : Kd.C k72 w A0_4 l0_4.length l0_4) (hc0_4 : l0_4.length ≤ c0_4) (h : proofmarkref30_Few.f k l0_0 l0_1 l0_2 l0_3 l0_4 = some (r1, r2, r3, r4, r5)) :
    Calls Tryz.prog 53 #[.agg #[.slice A0_0 l0_0.length c0_0, .slice A0_1 l0_1.length c0_1, .slice A0_2 l0_2.length c0_2, .slice A0_3 l0_3.length c0_3, .slice A0_4 l0_4.length c0_4]] w fun e w' => ∃ v0_ v1_ v2_ v3_ v4_ : Value, e = .returned (.agg #[v0_, v1_, v2_, v3_, v4_]) ∧ Kd.R k125 125 w' w.heap.size (fun _ => True) v0_ r1 ∧ Kd.R k72 72 w' w.heap.size (fun k_ => some k_ ≠ (v4_ : Value).ownBlock) v1_ r2 ∧ Kd.R k114 114 w' w.heap.size (fun _ => True) v2_ r3 ∧ Kd.R k105 105 w' w.heap.size (fun _ => True) v3_ r4 ∧ Kd.R k72 72 w' w.heap.size (fun k_ => some k_ ≠ (v1_ : Value).ownBlock) v4_ r5 ∧ Below w.heap.size w w' := by
  have hu27 := Tryz.underlying27
  have hu105 := Tryz.underlying105
  have HR0_0 := Aside0.mk hr0_0
  have HC0_0 := Aside0.mk hc0_0
  clear hr0_0 hc0_0
  have HR0_1 := Aside0.mk hr0_1
  have HC0_1 := Aside0.mk hc0_1
  clear hr0_1 hc0_1
  have HR0_2 := Aside0.mk hr0_2
  have HC0_2 := Aside0.mk hc0_2
  clear hr0_2 hc0_2
  have HR0_3 := Aside0.mk hr0_3
  have HC0_3 := Aside0.mk hc0_3
  clear hr0_3 hc0_3
  have HR0_4 := Aside0.mk hr0_4
  have HC0_4 := Aside0.mk hc0_4
  clear hr0_4 hc0_4
  have HB := Aside0.mk (Below.refl w.heap.size w)
  have H : ((proofmarkref27_Few.f k l0_0 l0_1 l0_2 l0_3 l0_4).bind fun bt396 => ((some (([] : List (S125)) : List (S125))).bind fun y412 => (if 0 ≤ (mn (l0_0.length : Int) 40) then (if (mn (l0_0.length : Int) 40) ≤ (l0_0.length : Int) then ((some (l0_0.take ((mn (l0_0.length : Int) 40) : Int).toNat : List (S125))).bind fun y415 => (if y412.length + y415.length < 2513169434916 then (proofmarkref30_Few.l0 k 0 l0_0 l0_1 l0_2 l0_3 l0_4 (y412 ++ y415) bt396.2.1 bt396.2.2.1 bt396.2.2.2.1 bt396.2.2.2.2) else (none))) else (none)) else (none)))) = some (r1, r2, r3, r4, r5) := h
  clear h
  replace H := Option.bind_eq_some_iff.mp H
  obtain ⟨⟨t396, t399, t402, t405, t408⟩, A20, H⟩ := H
  replace H : ((some (([] : List (S125)) : List (S125))).bind fun y412 => (if 0 ≤ (mn (l0_0.length : Int) 40) then (if (mn (l0_0.length : Int) 40) ≤ (l0_0.length : Int) then ((some (l0_0.take ((mn (l0_0.length : Int) 40) : Int).toNat : List (S125))).bind fun y415 => (if y412.length + y415.length < 2513169434916 then (proofmarkref30_Few.l0 k 0 l0_0 l0_1 l0_2 l0_3 l0_4 (y412 ++ y415) t399 t402 t405 t408) else (none))) else (none)) else (none))) = some (r1, r2, r3, r4, r5) := H
  have A2 := Aside0.mk A20
  clear A20
  obtain ⟨y412, hy412⟩ : ∃ y_ : List (S125), y_ = (([] : List (S125))) := ⟨_, rfl⟩
  replace H : (if 0 ≤ (mn (l0_0.length : Int) 40) then (if (mn (l0_0.length : Int) 40) ≤ (l0_0.length : Int) then ((some (l0_0.take ((mn (l0_0.length : Int) 40) : Int).toNat : List (S125))).bind fun y415 => (if y412.length + y415.length < 2513169434916 then (proofmarkref30_Few.l0 k 0 l0_0 l0_1 l0_2 l0_3 l0_4 (y412 ++ y415) t399 t402 t405 t408) else (none))) else (none)) else (none)) = some (r1, r2, r3, r4, r5) := by first | (have H2_ := (Option.bind_some _ _).symm.trans H; rw [hy412]; with_reducible exact H2_)
  have Ny412 := Aside0.mk hy412
  clear hy412
  obtain ⟨ji3, hji3⟩ : ∃ j_ : Int, (mn (l0_0.length : Int) 40) = j_ := ⟨_, rfl⟩
  replace H : (if 0 ≤ (ji3) then (if (ji3) ≤ (l0_0.length : Int) then ((some (l0_0.take ((ji3) : Int).toNat : List (S125))).bind fun y415 => (if y412.length + y415.length < 2513169434916 then (proofmarkref30_Few.l0 k 0 l0_0 l0_1 l0_2 l0_3 l0_4 (y412 ++ y415) t399 t402 t405 t408) else (none))) else (none)) else (none)) = some (r1, r2, r3, r4, r5) := by first | (rw [hji3] at H; exact H)
  (try rw [hji3] at A2)
  (try (have hji3h : ji3 ≤ 40 := by (rw [← hji3]; unfold mn; (repeat' split) <;> omega)))
  (try (have hji3g : ji3 ≤ 64 := by omega))
  (try (have hji3l : 0 ≤ ji3 := by (rw [← hji3]; unfold mn; (repeat' split) <;> omega)))
  (try (have hji3m : 0 ≤ ji3 := by omega))
  have hji3_ : (if 40 < (l0_0.length : Int) then 40 else (l0_0.length : Int)) = ji3 := hji3
  by_cases c4 : 0 ≤ (ji3)
  · rw [if_pos c4] at H
    have c4b0 := eq_true c4
    have c4b1 : decide (0 ≤ (ji3)) = true := decide_eq_true c4
    clear c4
    by_cases c5 : (ji3) ≤ (l0_0.length : Int)
    · rw [if_pos c5] at H
      have c5b0 := eq_true c5
      have c5b1 : decide ((ji3) ≤ (l0_0.length : Int)) = true := decide_eq_true c5
      clear c5
      obtain ⟨y415, hy415⟩ : ∃ y_ : List (S125), y_ = (l0_0.take ((ji3) : Int).toNat) := ⟨_, rfl⟩
      replace H : (if y412.length + y415.length < 2513169434916 then (proofmarkref30_Few.l0 k 0 l0_0 l0_1 l0_2 l0_3 l0_4 (y412 ++ y415) t399 t402 t405 t408) else (none)) = some (r1, r2, r3, r4, r5) := by first | (have H2_ := (Option.bind_some _ _).symm.trans H; rw [hy415]; with_reducible exact H2_)
      have Ny415 := Aside0.mk hy415
      clear hy415
      by_cases c6 : y412.length + y415.length < 2513169434916
      · rw [if_pos c6] at H
        have LMc6 := Aside0.mk c6
        clear c6
        obtain ⟨y419, hy419⟩ : ∃ y_ : List (S125), y_ = (y412 ++ y415) := ⟨_, rfl⟩
        replace H : (proofmarkref30_Few.l0 k 0 l0_0 l0_1 l0_2 l0_3 l0_4 y419 t399 t402 t405 t408) = some (r1, r2, r3, r4, r5) := by first | (rw [hy419]; with_reducible exact H)
        have Ny419 := Aside0.mk hy419
        clear hy419
        have H' := Aside0.mk H
        clear H
        go_enter Tryz.func53, Tryz.ntmps53
        go_wp2_with (first | ((with_reducible refine gate_dst (N := 1) rfl ?_); refine box_event ?hg (N := 1) ?hd (cs := #[.slice A0_0 l0_0.length c0_0, .slice A0_1 l0_1.length c0_1, .slice A0_2 l0_2.length c0_2, .slice A0_3 l0_3.length c0_3, .slice A0_4 l0_4.length c0_4]) (t := 27) ?hr ?_; (case hd => rfl); (case hg => rfl); (case hr => first | (go_simp; done)); intro gb394 hg w7 hbox hb; have n0_ := Aside0.mk (below_step HB.out hb); have n1_ := Aside0.mk (hbox); have n2_ := Aside0.mk ((by rw [hg]; exact (below_size HB.out) : w.heap.size ≤ gb394)); have n3_ := Aside0.mk ((by rw [hg]; exact (below_size HB.out) : w.heap.size ≤ gb394)); clear HB; have HB := n0_; have BK394 := n1_; have GW394 := n2_; have GE394 := n3_; clear n0_ n1_ n2_ n3_; clear hb hbox hg) | ((with_reducible refine gate_dst (N := 2) rfl ?_); refine box_event ?hg (N := 2) ?hd (cs := #[.slice none 0 0, .slice none 0 0, .slice none 0 0, .slice none 0 0, .slice none 0 0]) (t := 27) ?hr ?_; (case hd => rfl); (case hg => rfl); (case hr => first | (go_simp; done)); intro gb395 hg w8 hbox hb; have n0_ := Aside0.mk (blk_below BK394.out hb); have n1_ := Aside0.mk (below_step HB.out hb); have n2_ := Aside0.mk (hbox); have n3_ := Aside0.mk ((by rw [hg]; exact (below_size HB.out) : w.heap.size ≤ gb395)); have n4_ := Aside0.mk ((by rw [hg]; exact (below_size HB.out) : w.heap.size ≤ gb395)); have n5_ := Aside0.mk ((by rw [hg]; exact Nat.ne_of_lt (blk_lt BK394.out) : gb394 ≠ gb395)); have n6_ := Aside0.mk ((by rw [hg]; exact Nat.ne_of_gt (blk_lt BK394.out) : gb395 ≠ gb394)); clear BK394; clear HB; have BK394 := n0_; have HB := n1_; have BK395 := n2_; have GW395 := n3_; have GE395 := n4_; have NB394_395 := n5_; have NB395_394 := n6_; clear n0_ n1_ n2_ n3_ n4_ n5_ n6_; clear hb hbox hg; have hnb9 := NB394_395.out; have hnc9 := NB395_394.out; have hcz10_0 : w8.cell? ⟨gb394, 0, none⟩ = some (.slice A0_0 l0_0.length c0_0) := (blk_cell BK394.out 0).trans rfl; have hcz10_1 : w8.cell? ⟨gb394, 1, none⟩ = some (.slice A0_1 l0_1.length c0_1) := (blk_cell BK394.out 1).trans rfl; have hcz10_2 : w8.cell? ⟨gb394, 2, none⟩ = some (.slice A0_2 l0_2.length c0_2) := (blk_cell BK394.out 2).trans rfl; have hcz10_3 : w8.cell? ⟨gb394, 3, none⟩ = some (.slice A0_3 l0_3.length c0_3) := (blk_cell BK394.out 3).trans rfl; have hcz10_4 : w8.cell? ⟨gb394, 4, none⟩ = some (.slice A0_4 l0_4.length c0_4) := (blk_cell BK394.out 4).trans rfl; have hfz10_0 := blk_frozen BK394.out 0; have hfz10_1 := blk_frozen BK394.out 1; have hfz10_2 := blk_frozen BK394.out 2; have hfz10_3 := blk_frozen BK394.out 3; have hfz10_4 := blk_frozen BK394.out 4) | ((with_reducible refine gate_callee (f := 26) rfl ?_); refine goesL_ (some 7) rfl rfl Tryz.func26 (by kernel_rfl) rfl #[.agg #[.slice A0_0 l0_0.length c0_0, .slice A0_1 l0_1.length c0_1, .slice A0_2 l0_2.length c0_2, .slice A0_3 l0_3.length c0_3, .slice A0_4 l0_4.length c0_4]] rfl (by (try simp only [List.map_toArray, List.map_cons, List.map_nil]); first | rfl) ?_; (with_reducible refine (proofmarkref27_Few.calls k _ _ l0_0 _ _ l0_1 _ _ l0_2 _ _ l0_3 _ _ l0_4 t396 t399 t402 t405 t408 _ ?side1 ?side2 ?side3 ?side4 ?side5 ?side6 ?side7 ?side8 ?side9 ?side10 A2.out).mono ?_); (case side1 => repeat (first | exact (Kd.C_below HR0_0.out HB.out))); (case side2 => exact HC0_0.out); (case side3 => repeat (first | exact (Kd.C_below HR0_1.out HB.out))); (case side4 => exact HC0_1.out); (case side5 => repeat (first | exact (Kd.C_below HR0_2.out HB.out))); (case side6 => exact HC0_2.out); (case side7 => repeat (first | exact (Kd.C_below HR0_3.out HB.out))); (case side8 => exact HC0_3.out); (case side9 => repeat (first | exact (Kd.C_below HR0_4.out HB.out))); (case side10 => exact HC0_4.out); rintro e w11 ⟨v397, v400, v403, v406, v409, rfl, ho0, ho1, ho2, ho3, ho4, hb⟩; refine ⟨_, rfl, ?_⟩; have n0_ := Aside0.mk (Kd.R_lower ho0 (below_size HB.out)); have n1_ := Aside0.mk (Kd.R_lower ho1 (below_size HB.out)); have n2_ := Aside0.mk (Kd.R_lower ho2 (below_size HB.out)); have n3_ := Aside0.mk (Kd.R_lower ho3 (below_size HB.out)); have n4_ := Aside0.mk (Kd.R_lower ho4 (below_size HB.out)); have n5_ := Aside0.mk (blk_below BK394.out hb); have n6_ := Aside0.mk (blk_below BK395.out hb); have n7_ := Aside0.mk (below_step HB.out hb); clear BK394; clear BK395; clear HB; have HO398 := n0_; have HO401 := n1_; have HO404 := n2_; have HO407 := n3_; have HO410 := n4_; have BK394 := n5_; have BK395 := n6_; have HB := n7_; clear n0_ n1_ n2_ n3_ n4_ n5_ n6_ n7_; (try clear hb); (try clear hb2); (try clear hk); (try clear hi); (try clear ho0); (try clear ho1); (try clear ho2); (try clear ho3); (try clear ho4)) | ((with_reducible refine gate_dst (N := 3) rfl ?_); refine box_event ?hg (N := 3) ?hd (cs := #[.slice none 0 0, .slice none 0 0, .slice none 0 0, .slice none 0 0, .slice none 0 0]) (t := 27) ?hr ?_; (case hd => rfl); (case hg => rfl); (case hr => first | (go_simp; done)); intro gb411 hg w12 hbox hb; have n0_ := Aside0.mk (Kd.R_below HO398.out hb); have n1_ := Aside0.mk (Kd.R_below HO401.out hb); have n2_ := Aside0.mk (Kd.R_below HO404.out hb); have n3_ := Aside0.mk (Kd.R_below HO407.out hb); have n4_ := Aside0.mk (Kd.R_below HO410.out hb); have n5_ := Aside0.mk (blk_below BK394.out hb); have n6_ := Aside0.mk (blk_below BK395.out hb); have n7_ := Aside0.mk (below_step HB.out hb); have n8_ := Aside0.mk (hbox); have n9_ := Aside0.mk ((by rw [hg]; exact (below_size HB.out) : w.heap.size ≤ gb411)); have n10_ := Aside0.mk ((by rw [hg]; exact (below_size HB.out) : w.heap.size ≤ gb411)); have n11_ := Aside0.mk ((by rw [hg]; exact Nat.ne_of_lt (blk_lt BK394.out) : gb394 ≠ gb411)); have n12_ := Aside0.mk ((by rw [hg]; exact Nat.ne_of_gt (blk_lt BK394.out) : gb411 ≠ gb394)); have n13_ := Aside0.mk ((by rw [hg]; exact Nat.ne_of_lt (blk_lt BK395.out) : gb395 ≠ gb411)); have n14_ := Aside0.mk ((by rw [hg]; exact Nat.ne_of_gt (blk_lt BK395.out) : gb411 ≠ gb395)); clear HO398; clear HO401; clear HO404; clear HO407; clear HO410; clear BK394; clear BK395; clear HB; have HO398 := n0_; have HO401 := n1_; have HO404 := n2_; have HO407 := n3_; have HO410 := n4_; have BK394 := n5_; have BK395 := n6_; have HB := n7_; have BK411 := n8_; have GW411 := n9_; have GE411 := n10_; have NB394_411 := n11_; have NB411_394 := n12_; have NB395_411 := n13_; have NB411_395 := n14_; clear n0_ n1_ n2_ n3_ n4_ n5_ n6_ n7_ n8_ n9_ n10_ n11_ n12_ n13_ n14_; clear hb hbox hg; obtain ⟨Ao13, co13, eo13⟩ := Kd.R_slice HO398.out; subst eo13; have hnb14 := NB411_394.out; have hnc14 := NB394_411.out; have hnb15 := NB411_395.out; have hnc15 := NB395_411.out; have hcz16_0 : w12.cell? ⟨gb411, 0, none⟩ = some (.slice none 0 0) := (blk_cell BK411.out 0).trans rfl; have hcz16_1 : w12.cell? ⟨gb411, 1, none⟩ = some (.slice none 0 0) := (blk_cell BK411.out 1).trans rfl; have hcz16_2 : w12.cell? ⟨gb411, 2, none⟩ = some (.slice none 0 0) := (blk_cell BK411.out 2).trans rfl; have hcz16_3 : w12.cell? ⟨gb411, 3, none⟩ = some (.slice none 0 0) := (blk_cell BK411.out 3).trans rfl; have hcz16_4 : w12.cell? ⟨gb411, 4, none⟩ = some (.slice none 0 0) := (blk_cell BK411.out 4).trans rfl; have hfz16_0 := blk_frozen BK411.out 0; have hfz16_1 := blk_frozen BK411.out 1; have hfz16_2 := blk_frozen BK411.out 2; have hfz16_3 := blk_frozen BK411.out 3; have hfz16_4 := blk_frozen BK411.out 4; obtain ⟨Ao17, co17, eo17⟩ := Kd.R_slice HO401.out; subst eo17; obtain ⟨Ao18, co18, eo18⟩ := Kd.R_slice HO404.out; subst eo18; obtain ⟨Ao19, co19, eo19⟩ := Kd.R_slice HO407.out; subst eo19; obtain ⟨Ao20, co20, eo20⟩ := Kd.R_slice HO410.out; subst eo20) | ((with_reducible refine gate_dst (N := 8) rfl ?_); refine Kd.R_lit k125 _ 125 ?hg (N := 8) ?hd (xs := ([] : List (S125))) (inner := []) (ok := fun _ => True) (okp := fun _ => True) ?hr ?hp (fun _ hk => hk) trivial (Below.refl _ _) (Nat.le_refl _) (by simp) ?_; (case hd => rfl); (case hg => rfl); (case hr => first | (go_simp; done)); (case hp => exact (Reps.none _ _)); intro v413 w21 ho22 hb hg_ hnew_; clear hg_ hnew_; (first | rw [← Ny412.out] at ho22); have n0_ := Aside0.mk (Kd.R_elder' (by exact (Kd.R_mono (Kd.R_far (p := ⟨gb411, 4, none⟩) (Kd.R_far (p := ⟨gb411, 3, none⟩) (Kd.R_far (p := ⟨gb411, 2, none⟩) (Kd.R_far (p := ⟨gb411, 1, none⟩) (Kd.R_far (p := ⟨gb411, 0, none⟩) (Kd.R_types HO398.out BK411.out (by decide)) (fun _ hk => hk.2) (.slice Ao13 t396.length co13)) (fun _ hk => hk.2) (.slice Ao17 t399.length co17)) (fun _ hk => hk.2) (.slice Ao18 t402.length co18)) (fun _ hk => hk.2) (.slice Ao19 t405.length co19)) (fun _ hk => hk.2) (.slice Ao20 t408.length co20)) (fun _ h_ => h_.1))) (Kd.R_base ho22) hb); have n1_ := Aside0.mk (Kd.R_below (by exact (Kd.R_mono (Kd.R_far (p := ⟨gb411, 4, none⟩) (Kd.R_far (p := ⟨gb411, 3, none⟩) (Kd.R_far (p := ⟨gb411, 2, none⟩) (Kd.R_far (p := ⟨gb411, 1, none⟩) (Kd.R_far (p := ⟨gb411, 0, none⟩) (Kd.R_types HO401.out BK411.out (by decide)) (fun _ hk => hk.2) (.slice Ao13 t396.length co13)) (fun _ hk => hk.2) (.slice Ao17 t399.length co17)) (fun _ hk => hk.2) (.slice Ao18 t402.length co18)) (fun _ hk => hk.2) (.slice Ao19 t405.length co19)) (fun _ hk => hk.2) (.slice Ao20 t408.length co20)) (fun _ h_ => h_.1))) hb); have n2_ := Aside0.mk (Kd.R_below (by exact (Kd.R_mono (Kd.R_far (p := ⟨gb411, 4, none⟩) (Kd.R_far (p := ⟨gb411, 3, none⟩) (Kd.R_far (p := ⟨gb411, 2, none⟩) (Kd.R_far (p := ⟨gb411, 1, none⟩) (Kd.R_far (p := ⟨gb411, 0, none⟩) (Kd.R_types HO404.out BK411.out (by decide)) (fun _ hk => hk.2) (.slice Ao13 t396.length co13)) (fun _ hk => hk.2) (.slice Ao17 t399.length co17)) (fun _ hk => hk.2) (.slice Ao18 t402.length co18)) (fun _ hk => hk.2) (.slice Ao19 t405.length co19)) (fun _ hk => hk.2) (.slice Ao20 t408.length co20)) (fun _ h_ => h_.1))) hb); have n3_ := Aside0.mk (Kd.R_below (by exact (Kd.R_mono (Kd.R_far (p := ⟨gb411, 4, none⟩) (Kd.R_far (p := ⟨gb411, 3, none⟩) (Kd.R_far (p := ⟨gb411, 2, none⟩) (Kd.R_far (p := ⟨gb411, 1, none⟩) (Kd.R_far (p := ⟨gb411, 0, none⟩) (Kd.R_types HO407.out BK411.out (by decide)) (fun _ hk => hk.2) (.slice Ao13 t396.length co13)) (fun _ hk => hk.2) (.slice Ao17 t399.length co17)) (fun _ hk => hk.2) (.slice Ao18 t402.length co18)) (fun _ hk => hk.2) (.slice Ao19 t405.length co19)) (fun _ hk => hk.2) (.slice Ao20 t408.length co20)) (fun _ h_ => h_.1))) hb); have n4_ := Aside0.mk (Kd.R_below (by exact (Kd.R_mono (Kd.R_far (p := ⟨gb411, 4, none⟩) (Kd.R_far (p := ⟨gb411, 3, none⟩) (Kd.R_far (p := ⟨gb411, 2, none⟩) (Kd.R_far (p := ⟨gb411, 1, none⟩) (Kd.R_far (p := ⟨gb411, 0, none⟩) (Kd.R_types HO410.out BK411.out (by decide)) (fun _ hk => hk.2) (.slice Ao13 t396.length co13)) (fun _ hk => hk.2) (.slice Ao17 t399.length co17)) (fun _ hk => hk.2) (.slice Ao18 t402.length co18)) (fun _ hk => hk.2) (.slice Ao19 t405.length co19)) (fun _ hk => hk.2) (.slice Ao20 t408.length co20)) (fun _ h_ => h_.1))) hb); have n5_ := Aside0.mk (Kd.R_lower (Kd.R_new' ho22 (Kd.R_lt (by exact (Kd.R_mono (Kd.R_far (p := ⟨gb411, 4, none⟩) (Kd.R_far (p := ⟨gb411, 3, none⟩) (Kd.R_far (p := ⟨gb411, 2, none⟩) (Kd.R_far (p := ⟨gb411, 1, none⟩) (Kd.R_far (p := ⟨gb411, 0, none⟩) (Kd.R_types HO398.out BK411.out (by decide)) (fun _ hk => hk.2) (.slice Ao13 t396.length co13)) (fun _ hk => hk.2) (.slice Ao17 t399.length co17)) (fun _ hk => hk.2) (.slice Ao18 t402.length co18)) (fun _ hk => hk.2) (.slice Ao19 t405.length co19)) (fun _ hk => hk.2) (.slice Ao20 t408.length co20)) (fun _ h_ => h_.1))))) (below_size (by repeat (first | (with_reducible first | exact HB.out | refine below_set ?_ GE411.out))))); have n6_ := Aside0.mk (blk_below (g := gb394) (o := .cells #[.slice A0_0 l0_0.length c0_0, .slice A0_1 l0_1.length c0_1, .slice A0_2 l0_2.length c0_2, .slice A0_3 l0_3.length c0_3, .slice A0_4 l0_4.length c0_4] 27 (0, 0)) (by refine blk_far ?_ NB394_411.out _; refine blk_far ?_ NB394_411.out _; refine blk_far ?_ NB394_411.out _; refine blk_far ?_ NB394_411.out _; refine blk_far ?_ NB394_411.out _; exact BK394.out) hb); have n7_ := Aside0.mk (blk_below (g := gb395) (o := .cells #[.slice none 0 0, .slice none 0 0, .slice none 0 0, .slice none 0 0, .slice none 0 0] 27 (0, 0)) (by refine blk_far ?_ NB395_411.out _; refine blk_far ?_ NB395_411.out _; refine blk_far ?_ NB395_411.out _; refine blk_far ?_ NB395_411.out _; refine blk_far ?_ NB395_411.out _; exact BK395.out) hb); have n8_ := Aside0.mk (blk_below (g := gb411) (o := .cells #[.slice Ao13 t396.length co13, .slice Ao17 t399.length co17, .slice Ao18 t402.length co18, .slice Ao19 t405.length co19, .slice Ao20 t408.length co20] 27 (0, 0)) (by refine blk_put (cs := #[.slice Ao13 t396.length co13, .slice Ao17 t399.length co17, .slice Ao18 t402.length co18, .slice Ao19 t405.length co19, .slice none 0 0]) ?_ 4 _ rfl; refine blk_put (cs := #[.slice Ao13 t396.length co13, .slice Ao17 t399.length co17, .slice Ao18 t402.length co18, .slice none 0 0, .slice none 0 0]) ?_ 3 _ rfl; refine blk_put (cs := #[.slice Ao13 t396.length co13, .slice Ao17 t399.length co17, .slice none 0 0, .slice none 0 0, .slice none 0 0]) ?_ 2 _ rfl; refine blk_put (cs := #[.slice Ao13 t396.length co13, .slice none 0 0, .slice none 0 0, .slice none 0 0, .slice none 0 0]) ?_ 1 _ rfl; refine blk_put (cs := #[.slice none 0 0, .slice none 0 0, .slice none 0 0, .slice none 0 0, .slice none 0 0]) ?_ 0 _ rfl; exact BK411.out) hb); have n9_ := Aside0.mk (below_step (by repeat (first | (with_reducible first | exact HB.out | refine below_set ?_ GE411.out))) hb); clear HO398; clear HO401; clear HO404; clear HO407; clear HO410; clear BK394; clear BK395; clear BK411; clear HB; have HO398 := n0_; have HO401 := n1_; have HO404 := n2_; have HO407 := n3_; have HO410 := n4_; have HO414 := n5_; have BK394 := n6_; have BK395 := n7_; have BK411 := n8_; have HB := n9_; clear n0_ n1_ n2_ n3_ n4_ n5_ n6_ n7_ n8_ n9_; clear hb ho22; have hcz23_0 : w21.cell? ⟨gb394, 0, none⟩ = some (.slice A0_0 l0_0.length c0_0) := (blk_cell BK394.out 0).trans rfl; have hcz23_1 : w21.cell? ⟨gb394, 1, none⟩ = some (.slice A0_1 l0_1.length c0_1) := (blk_cell BK394.out 1).trans rfl; have hcz23_2 : w21.cell? ⟨gb394, 2, none⟩ = some (.slice A0_2 l0_2.length c0_2) := (blk_cell BK394.out 2).trans rfl; have hcz23_3 : w21.cell? ⟨gb394, 3, none⟩ = some (.slice A0_3 l0_3.length c0_3) := (blk_cell BK394.out 3).trans rfl; have hcz23_4 : w21.cell? ⟨gb394, 4, none⟩ = some (.slice A0_4 l0_4.length c0_4) := (blk_cell BK394.out 4).trans rfl; have hfz23_0 := blk_frozen BK394.out 0; have hfz23_1 := blk_frozen BK394.out 1; have hfz23_2 := blk_frozen BK394.out 2; have hfz23_3 := blk_frozen BK394.out 3; have hfz23_4 := blk_frozen BK394.out 4; have q24 : ((ji3) : Int) ≤ ((l0_0.length : Int) : Int) := of_decide_eq_true (by first | (with_reducible assumption)); obtain ⟨i024, hi024, _, hsz24, _⟩ := info_parts info125; have hroom24 : l0_0.length ≤ c0_0 := HC0_0.out; have hC24 : Kd.C k125 _ A0_0 l0_0.length l0_0 := HR0_0.out; have hcut24 := cut_to (P := Tryz.prog) 22 125 .i64 Tryz.underlying22 hi024 A0_0 l0_0.length c0_0 (ji3) (of_decide_eq_true (by first | (with_reducible assumption))) q24 hroom24; have hr24 := Kd.C_take (m := ((ji3) : Int).toNat) hC24 (by omega); have hy24 : y415.length = ((ji3) : Int).toNat := (by rw [Ny415.out, List.length_take]; omega); rw [← Ny415.out] at hr24; rw [← hy24] at hcut24; have HR418 := Aside0.mk hr24; have HC418 := Aside0.mk (show y415.length ≤ c0_0 from by omega); clear hr24 hC24 hroom24 hi024 hsz24; have KY24 := Aside0.mk hy24; clear hy24; replace q24 := eq_true q24) | ((with_reducible refine gate_builtin (b := .append) (xs := #[.tmp 8, .tmp 15]) rfl ?_); at_builtin; refine Kd.R_append_rows k125 (w0 := w) w.heap.size rfl (.tmp 8) (.tmp 15) 22 125 (.agg #[(.int .i64 0), (.int .i64 0), (.int .i64 0), (.int .i64 0), (.int .i64 0), (.int .i64 0), (.int .i64 0)]) 56 rfl Tryz.underlying22 info125 rfl (by decide) (by omega) v413 y412 y415 _ _ _ (fun k_ => some k_ ≠ (.slice Ao13 t396.length co13 : Value).ownBlock) (fun _ => False) rfl rfl ?aO ?aR (fun _ _ h => h) (fun _ h => h.elim) ?aF ?aB ?aS ?aL ?_; (case aR => repeat (first | exact (Kd.C_below HR418.out HB.out))); (case aB => exact HB.out); (case aF => exact (fun k_ hk => Kd.fresh' (Kd.R_lt HO398.out) k_ hk)); (case aO => exact (by exact Kd.R_mono HO414.out (fun _ hk => hk.2))); (case aS => exact (below_size HB.out)); (case aL => have := LMc6.out; omega); intro v420 w25 ho hb hg hat; rw [← Ny419.out] at ho; have n0_ := Aside0.mk (blk_grown (g := gb394) (o := .cells #[.slice A0_0 l0_0.length c0_0, .slice A0_1 l0_1.length c0_1, .slice A0_2 l0_2.length c0_2, .slice A0_3 l0_3.length c0_3, .slice A0_4 l0_4.length c0_4] 27 (0, 0)) BK394.out hg (Kd.R_ne HO414.out BK394.out (by decide))); have n1_ := Aside0.mk (blk_grown (g := gb395) (o := .cells #[.slice none 0 0, .slice none 0 0, .slice none 0 0, .slice none 0 0, .slice none 0 0] 27 (0, 0)) BK395.out hg (Kd.R_ne HO414.out BK395.out (by decide))); have n2_ := Aside0.mk (Kd.R_after (ok := (fun _ => True)) HO398.out hg hat); have n3_ := Aside0.mk (Kd.R_over' HO401.out (Kd.R_typed HO414.out) (by decide) hg); have n4_ := Aside0.mk (Kd.R_over' HO404.out (Kd.R_typed HO414.out) (by decide) hg); have n5_ := Aside0.mk (Kd.R_over' HO407.out (Kd.R_typed HO414.out) (by decide) hg); have n6_ := Aside0.mk (Kd.R_over' HO410.out (Kd.R_typed HO414.out) (by decide) hg); have n7_ := Aside0.mk (blk_grown (g := gb411) (o := .cells #[.slice Ao13 t396.length co13, .slice Ao17 t399.length co17, .slice Ao18 t402.length co18, .slice Ao19 t405.length co19, .slice Ao20 t408.length co20] 27 (0, 0)) BK411.out hg (Kd.R_ne HO414.out BK411.out (by decide))); have n8_ := Aside0.mk (hb); have n9_ := Aside0.mk (ho); clear BK394; clear BK395; clear HO398; clear HO401; clear HO404; clear HO407; clear HO410; clear BK411; clear HB; clear HO414; have BK394 := n0_; have BK395 := n1_; have HO398 := n2_; have HO401 := n3_; have HO404 := n4_; have HO407 := n5_; have HO410 := n6_; have BK411 := n7_; have HB := n8_; have HO421 := n9_; clear n0_ n1_ n2_ n3_ n4_ n5_ n6_ n7_ n8_ n9_; clear ho hb hg hat; obtain ⟨Ao26, co26, eo26⟩ := Kd.R_slice HO421.out; subst eo26; have hcz27_0 : w25.cell? ⟨gb411, 0, none⟩ = some (.slice Ao13 t396.length co13) := (blk_cell BK411.out 0).trans rfl; have hcz27_1 : w25.cell? ⟨gb411, 1, none⟩ = some (.slice Ao17 t399.length co17) := (blk_cell BK411.out 1).trans rfl; have hcz27_2 : w25.cell? ⟨gb411, 2, none⟩ = some (.slice Ao18 t402.length co18) := (blk_cell BK411.out 2).trans rfl; have hcz27_3 : w25.cell? ⟨gb411, 3, none⟩ = some (.slice Ao19 t405.length co19) := (blk_cell BK411.out 3).trans rfl; have hcz27_4 : w25.cell? ⟨gb411, 4, none⟩ = some (.slice Ao20 t408.length co20) := (blk_cell BK411.out 4).trans rfl; have hfz27_0 := blk_frozen BK411.out 0; have hfz27_1 := blk_frozen BK411.out 1; have hfz27_2 := blk_frozen BK411.out 2; have hfz27_3 := blk_frozen BK411.out 3; have hfz27_4 := blk_frozen BK411.out 4))
        try simp only [Act.put, List.setIfInBounds_toArray, List.set_cons_succ, List.set_cons_zero]
        go_loopg [4] k (fun kq v4 w' => ∃ (x4_1 : Int) (x412003_1 : List (S105)) (u412003 : Value), v4 = .int .i64 x4_1 ∧ Aside0 (proofmarkref30_Few.l0 kq x4_1 l0_0 l0_1 l0_2 l0_3 l0_4 y419 t399 t402 x412003_1 t408 = some (r1, r2, r3, r4, r5)) ∧ Aside0 (kq ≤ k) ∧ Aside0 (Kd.R k125 125 w' w.heap.size (fun _ => True) (.slice Ao26 y419.length co26) y419) ∧ Aside0 (Kd.R k72 72 w' w.heap.size (fun k_ => some k_ ≠ ((.slice Ao20 t408.length co20) : Value).ownBlock) (.slice Ao17 t399.length co17) t399) ∧ Aside0 (Kd.R k114 114 w' w.heap.size (fun _ => True) (.slice Ao18 t402.length co18) t402) ∧ Aside0 (Kd.R k105 105 w' w.heap.size (fun _ => True) u412003 x412003_1) ∧ Aside0 (Kd.R k72 72 w' w.heap.size (fun k_ => some k_ ≠ ((.slice Ao17 t399.length co17) : Value).ownBlock) (.slice Ao20 t408.length co20) t408) ∧ Aside0 (w'.heap[gb394]? = some (.cells #[(.slice A0_0 l0_0.length c0_0), (.slice A0_1 l0_1.length c0_1), (.slice A0_2 l0_2.length c0_2), (.slice A0_3 l0_3.length c0_3), (.slice A0_4 l0_4.length c0_4)] 27 (0, 0))) ∧ Aside0 (w'.heap[gb395]? = some (.cells #[(.slice none 0 0), (.slice none 0 0), (.slice none 0 0), (.slice none 0 0), (.slice none 0 0)] 27 (0, 0))) ∧ Aside0 (w'.heap[gb411]? = some (.cells #[(.slice Ao26 y419.length co26), (.slice Ao17 t399.length co17), (.slice Ao18 t402.length co18), u412003, (.slice Ao20 t408.length co20)] 27 (0, 0))) ∧ Aside0 (Below w.heap.size w w'))
        case atStart => exact ⟨(0), (t405), (.slice Ao19 t405.length co19), rfl, H', ⟨Nat.le_refl _⟩, ⟨by exact Kd.R_mono (Kd.R_far (p := ⟨gb411, 0, none⟩) (Kd.R_types HO421.out BK411.out (by decide)) (fun _ hk => hk.2) (.slice Ao26 y419.length co26)) (fun _ hk => trivial)⟩, ⟨by exact Kd.R_mono (Kd.R_far (p := ⟨gb411, 0, none⟩) (Kd.R_types HO401.out BK411.out (by decide)) (fun _ hk => hk.2) (.slice Ao26 y419.length co26)) (fun _ hk => hk.1)⟩, ⟨by exact Kd.R_mono (Kd.R_far (p := ⟨gb411, 0, none⟩) (Kd.R_types HO404.out BK411.out (by decide)) (fun _ hk => hk.2) (.slice Ao26 y419.length co26)) (fun _ hk => trivial)⟩, ⟨by exact Kd.R_mono (Kd.R_far (p := ⟨gb411, 0, none⟩) (Kd.R_types HO407.out BK411.out (by decide)) (fun _ hk => hk.2) (.slice Ao26 y419.length co26)) (fun _ hk => trivial)⟩, ⟨by exact Kd.R_mono (Kd.R_far (p := ⟨gb411, 0, none⟩) (Kd.R_types HO410.out BK411.out (by decide)) (fun _ hk => hk.2) (.slice Ao26 y419.length co26)) (fun _ hk => hk.1)⟩, ⟨by refine blk_far ?_ NB394_411.out _; exact BK394.out⟩, ⟨by refine blk_far ?_ NB395_411.out _; exact BK395.out⟩, ⟨by refine blk_put (cs := #[.slice Ao13 t396.length co13, .slice Ao17 t399.length co17, .slice Ao18 t402.length co18, .slice Ao19 t405.length co19, .slice Ao20 t408.length co20]) ?_ 0 _ rfl; exact BK411.out⟩, ⟨by repeat (first | (with_reducible first | exact HB.out | refine below_set ?_ GE411.out))⟩⟩
        case round =>
          clear H'
          try clear c1
          try clear c2
          try clear p2
          try clear q2
          try clear c4
          try clear c4b0
          try clear c4b1
          try clear c5
          try clear c5b0
          try clear c5b1
          try clear c6
          try clear c9
          try clear c14
          try clear c15
          try clear q24
          try clear c26
          try clear hcz10_0
          try clear hcz10_1
          try clear hcz10_2
          try clear hcz10_3
          try clear hcz10_4
          try clear hcz16_0
          try clear hcz16_1
          try clear hcz16_2
          try clear hcz16_3
          try clear hcz16_4
          try clear hcz23_0
          try clear hcz23_1
          try clear hcz23_2
          try clear hcz23_3
          try clear hcz23_4
          try clear hcz27_0
          try clear hcz27_1
          try clear hcz27_2
          try clear hcz27_3
          try clear hcz27_4
          try clear hfz10_0
          try clear hfz10_1
          try clear hfz10_2
          try clear hfz10_3
          try clear hfz10_4
          try clear hfz16_0
          try clear hfz16_1
          try clear hfz16_2
          try clear hfz16_3
          try clear hfz16_4
          try clear hfz23_0
          try clear hfz23_1
          try clear hfz23_2
          try clear hfz23_3
          try clear hfz23_4
          try clear hfz27_0
          try clear hfz27_1
          try clear hfz27_2
          try clear hfz27_3
          try clear hfz27_4
          try clear q24
          obtain ⟨x4_1, x412003_1, u412003, rfl, HA, HK1, HO_412000, HO_412001, HO_412002, HO_412003, HO_412004, BK394, BK395, BK411, HB⟩ := hrel
          cases gk with
          | zero => exact absurd HA.out (by simp [proofmarkref30_Few.l0])
          | succ k1 =>
            have H := HA.out
            clear HA
            simp only [proofmarkref30_Few.l0] at H
            by_cases c28 : x4_1 < (l0_3.length : Int)
            · rw [if_pos c28] at H
              have c28b0 : decide (x4_1 < (l0_3.length : Int)) = true := decide_eq_true c28
              clear c28
              by_cases c29 : x4_1 < 40
              · rw [if_pos c29] at H
                have c29b0 : decide (x4_1 < 40) = true := decide_eq_true c29
                clear c29
                by_cases c30 : 0 ≤ x4_1
                · rw [if_pos c30] at H
                  have c30b0 : decide (0 ≤ x4_1) = true := decide_eq_true c30
                  clear c30
                  obtain ⟨ji31, hji31⟩ : ∃ j_ : Int, (mn (((rd_T105 l0_3 x4_1).f1).size : Int) 12) = j_ := ⟨_, rfl⟩
                  replace H : (if 0 ≤ (ji31) then (if (ji31) ≤ (((rd_T105 l0_3 x4_1).f1).size : Int) then (if x412003_1.length < 4398046511104 then (proofmarkref30_Few.l0 k1 (wrap64 (x4_1 + 1)) l0_0 l0_1 l0_2 l0_3 l0_4 y419 t399 t402 (x412003_1 ++ [(⟨(rd_T105 l0_3 x4_1).f0, ((rd_T105 l0_3 x4_1).f1).extract 0 ((ji31) : Int).toNat, (rd_T105 l0_3 x4_1).f2⟩ : S105)]) t408) else (none)) else (none)) else (none)) = some (r1, r2, r3, r4, r5) := by first | (rw [hji31] at H; exact H)
                  have hji31_ : (if 12 < (((rd_T105 l0_3 x4_1).f1).size : Int) then 12 else (((rd_T105 l0_3 x4_1).f1).size : Int)) = ji31 := hji31
                  by_cases c32 : 0 ≤ (ji31)
                  · rw [if_pos c32] at H
                    have c32b0 := eq_true c32
                    have c32b1 : decide (0 ≤ (ji31)) = true := decide_eq_true c32
                    clear c32
                    by_cases c33 : (ji31) ≤ (((rd_T105 l0_3 x4_1).f1).size : Int)
                    · rw [if_pos c33] at H
                      have c33b0 := eq_true c33
                      have c33b1 : decide ((ji31) ≤ (((rd_T105 l0_3 x4_1).f1).size : Int)) = true := decide_eq_true c33
                      clear c33
                      by_cases c34 : x412003_1.length < 4398046511104
                      · rw [if_pos c34] at H
                        have LMc34 := Aside0.mk c34
                        clear c34
                        obtain ⟨y424, hy424⟩ : ∃ y_ : List (S105), y_ = (x412003_1 ++ [(⟨(rd_T105 l0_3 x4_1).f0, ((rd_T105 l0_3 x4_1).f1).extract 0 ((ji31) : Int).toNat, (rd_T105 l0_3 x4_1).f2⟩ : S105)]) := ⟨_, rfl⟩
                        replace H : (proofmarkref30_Few.l0 k1 (wrap64 (x4_1 + 1)) l0_0 l0_1 l0_2 l0_3 l0_4 y419 t399 t402 y424 t408) = some (r1, r2, r3, r4, r5) := by first | (rw [hy424]; with_reducible exact H)
                        have Ny424 := Aside0.mk hy424
                        clear hy424
                        have H' := Aside0.mk H
                        clear H
                        have hnb35 := NB394_395.out
                        have hnc35 := NB395_394.out
                        have hnb36 := NB394_411.out
                        have hnc36 := NB411_394.out
                        have hcz37_0 : wr.cell? ⟨gb394, 0, none⟩ = some (.slice A0_0 l0_0.length c0_0) := (blk_cell BK394.out 0).trans rfl
                        have hcz37_1 : wr.cell? ⟨gb394, 1, none⟩ = some (.slice A0_1 l0_1.length c0_1) := (blk_cell BK394.out 1).trans rfl
                        have hcz37_2 : wr.cell? ⟨gb394, 2, none⟩ = some (.slice A0_2 l0_2.length c0_2) := (blk_cell BK394.out 2).trans rfl
                        have hcz37_3 : wr.cell? ⟨gb394, 3, none⟩ = some (.slice A0_3 l0_3.length c0_3) := (blk_cell BK394.out 3).trans rfl
                        have hcz37_4 : wr.cell? ⟨gb394, 4, none⟩ = some (.slice A0_4 l0_4.length c0_4) := (blk_cell BK394.out 4).trans rfl
                        have hfz37_0 := blk_frozen BK394.out 0
                        have hfz37_1 := blk_frozen BK394.out 1
                        have hfz37_2 := blk_frozen BK394.out 2
                        have hfz37_3 := blk_frozen BK394.out 3
                        have hfz37_4 := blk_frozen BK394.out 4
                        have p422 : 0 ≤ (x4_1 : Int) := of_decide_eq_true (by first | (with_reducible assumption))
                        have q422 : x4_1 < (l0_3.length : Int) := of_decide_eq_true (by first | (with_reducible assumption))
                        obtain ⟨ad422, e422, hx422_0, hx422_1, hx422_2⟩ := at_T105 HR0_3.out x4_1 p422 q422
                        cases e422
                        replace hx422_0 := (HB.out.cell (World.block_lt_of_cell? w _ hx422_0)).trans hx422_0
                        replace hx422_1 := (HB.out.cell (World.block_lt_of_cell? w _ hx422_1)).trans hx422_1
                        replace hx422_2 := (HB.out.cell (World.block_lt_of_cell? w _ hx422_2)).trans hx422_2
                        replace p422 := eq_true p422
                        replace q422 := eq_true q422
                        go_wp2_with (first | ((with_reducible refine gate_dst (N := 5) rfl ?_); refine box_event ?hg (N := 5) ?hd (cs := #[.int .i64 0, .string (⟨#[]⟩ : ByteArray), .int .i64 0]) (t := 105) ?hr ?_; (case hd => rfl); (case hg => rfl); (case hr => first | (go_simp; done)); intro gb423 hg w38 hbox hb; have n0_ := Aside0.mk (Kd.R_below HO_412000.out hb); have n1_ := Aside0.mk (Kd.R_below HO_412001.out hb); have n2_ := Aside0.mk (Kd.R_below HO_412002.out hb); have n3_ := Aside0.mk (Kd.R_below (Kd.R_elderB HO_412003.out gb423 (Nat.le_of_eq hg.symm)) hb); have n4_ := Aside0.mk (Kd.R_below HO_412004.out hb); have n5_ := Aside0.mk (blk_below BK394.out hb); have n6_ := Aside0.mk (blk_below BK395.out hb); have n7_ := Aside0.mk (blk_below BK411.out hb); have n8_ := Aside0.mk (below_step HB.out hb); have n9_ := Aside0.mk (hbox); have n10_ := Aside0.mk ((by rw [hg]; exact (below_size HB.out) : w.heap.size ≤ gb423)); have n11_ := Aside0.mk ((by rw [hg]; exact (below_size HB.out) : w.heap.size ≤ gb423)); have n12_ := Aside0.mk ((by rw [hg]; exact Nat.ne_of_lt (blk_lt BK394.out) : gb394 ≠ gb423)); have n13_ := Aside0.mk ((by rw [hg]; exact Nat.ne_of_gt (blk_lt BK394.out) : gb423 ≠ gb394)); have n14_ := Aside0.mk ((by rw [hg]; exact Nat.ne_of_lt (blk_lt BK395.out) : gb395 ≠ gb423)); have n15_ := Aside0.mk ((by rw [hg]; exact Nat.ne_of_gt (blk_lt BK395.out) : gb423 ≠ gb395)); have n16_ := Aside0.mk ((by rw [hg]; exact Nat.ne_of_lt (blk_lt BK411.out) : gb411 ≠ gb423)); have n17_ := Aside0.mk ((by rw [hg]; exact Nat.ne_of_gt (blk_lt BK411.out) : gb423 ≠ gb411)); clear HO_412000; clear HO_412001; clear HO_412002; clear HO_412003; clear HO_412004; clear BK394; clear BK395; clear BK411; clear HB; have HO_412000 := n0_; have HO_412001 := n1_; have HO_412002 := n2_; have HO_412003 := n3_; have HO_412004 := n4_; have BK394 := n5_; have BK395 := n6_; have BK411 := n7_; have HB := n8_; have BK423 := n9_; have GW423 := n10_; have GE423 := n11_; have NB394_423 := n12_; have NB423_394 := n13_; have NB395_423 := n14_; have NB423_395 := n15_; have NB411_423 := n16_; have NB423_411 := n17_; clear n0_ n1_ n2_ n3_ n4_ n5_ n6_ n7_ n8_ n9_ n10_ n11_ n12_ n13_ n14_ n15_ n16_ n17_; clear hb hbox hg; have hnb39 := NB423_394.out; have hnc39 := NB394_423.out; have hnb40 := NB423_395.out; have hnc40 := NB395_423.out; have hnb41 := NB423_411.out; have hnc41 := NB411_423.out; have hcz42_0 : w38.cell? ⟨gb423, 0, none⟩ = some (.int .i64 0) := (blk_cell BK423.out 0).trans rfl; have hcz42_1 : w38.cell? ⟨gb423, 1, none⟩ = some (.string (⟨#[]⟩ : ByteArray)) := (blk_cell BK423.out 1).trans rfl; have hcz42_2 : w38.cell? ⟨gb423, 2, none⟩ = some (.int .i64 0) := (blk_cell BK423.out 2).trans rfl; have hfz42_0 := blk_frozen BK423.out 0; have hfz42_1 := blk_frozen BK423.out 1; have hfz42_2 := blk_frozen BK423.out 2; have hQ_ := set4 (b0 := .int .i64 (rd_T105 l0_3 x4_1).f0) (b1 := .string (rd_T105 l0_3 x4_1).f1) (b2 := .int .i64 (rd_T105 l0_3 x4_1).f2) (b3 := .string ((rd_T105 l0_3 x4_1).f1.extract 0 ji31.toNat)) BK423.out; have hQ0 := hQ_.1; have hQ1 := hQ_.2.1; have hQ2 := hQ_.2.2; clear hQ_; have hnb43 := NB411_395.out; have hnc43 := NB395_411.out; have hcz44_0 : w38.cell? ⟨gb411, 0, none⟩ = some (.slice Ao26 y419.length co26) := (blk_cell BK411.out 0).trans rfl; have hcz44_1 : w38.cell? ⟨gb411, 1, none⟩ = some (.slice Ao17 t399.length co17) := (blk_cell BK411.out 1).trans rfl; have hcz44_2 : w38.cell? ⟨gb411, 2, none⟩ = some (.slice Ao18 t402.length co18) := (blk_cell BK411.out 2).trans rfl; have hcz44_3 : w38.cell? ⟨gb411, 3, none⟩ = some (u412003) := (blk_cell BK411.out 3).trans rfl; have hcz44_4 : w38.cell? ⟨gb411, 4, none⟩ = some (.slice Ao20 t408.length co20) := (blk_cell BK411.out 4).trans rfl; have hfz44_0 := blk_frozen BK411.out 0; have hfz44_1 := blk_frozen BK411.out 1; have hfz44_2 := blk_frozen BK411.out 2; have hfz44_3 := blk_frozen BK411.out 3; have hfz44_4 := blk_frozen BK411.out 4) | ((with_reducible refine gate_builtin (b := .append) (xs := #[.tmp 43, .tmp 45]) rfl ?_); at_builtin; refine Kd.R_append k105 (w0 := w) w.heap.size rfl (.tmp 43) (.tmp 45) 25 105 (.agg #[(.int .i64 0), (.string ⟨#[]⟩), (.int .i64 0)]) 32 rfl Tryz.underlying25 info105 rfl (by decide) (by omega) u412003 x412003_1 (⟨(rd_T105 l0_3 x4_1).f0, ((rd_T105 l0_3 x4_1).f1).extract 0 ((ji31) : Int).toNat, (rd_T105 l0_3 x4_1).f2⟩ : S105) [.int .i64 ((rd_T105 l0_3 x4_1).f0), .string (((rd_T105 l0_3 x4_1).f1).extract 0 ((ji31) : Int).toNat), .int .i64 ((rd_T105 l0_3 x4_1).f2)] (fun k_ => k_ ≠ gb423) (fun _ => False) rfl (by first | (go_simp; done)) ?aP (fun _ hk => hk.elim) ?aF ?aO ?aB ?aS ?aL ?_; (case aP => exact k105_mkM _ _ _ (⟨(rd_T105 l0_3 x4_1).f0, ((rd_T105 l0_3 x4_1).f1).extract 0 ((ji31) : Int).toNat, (rd_T105 l0_3 x4_1).f2⟩ : S105)); (case aB => exact (by repeat (first | (with_reducible first | exact HB.out | refine below_set ?_ GE423.out)))); (case aF => exact (fun k_ hk => Kd.freshB (g := gb423) (o := .cells #[.int .i64 ((rd_T105 l0_3 x4_1).f0), .string (((rd_T105 l0_3 x4_1).f1).extract 0 ((ji31) : Int).toNat), .int .i64 ((rd_T105 l0_3 x4_1).f2)] 105 (0, 0)) (by refine blk_put (cs := #[.int .i64 ((rd_T105 l0_3 x4_1).f0), .string ((rd_T105 l0_3 x4_1).f1), .int .i64 ((rd_T105 l0_3 x4_1).f2)]) ?_ 1 _ rfl; refine blk_put (cs := #[.int .i64 ((rd_T105 l0_3 x4_1).f0), .string ((rd_T105 l0_3 x4_1).f1), .int .i64 0]) ?_ 2 _ rfl; refine blk_put (cs := #[.int .i64 ((rd_T105 l0_3 x4_1).f0), .string (⟨#[]⟩ : ByteArray), .int .i64 0]) ?_ 1 _ rfl; refine blk_put (cs := #[.int .i64 0, .string (⟨#[]⟩ : ByteArray), .int .i64 0]) ?_ 0 _ rfl; exact BK423.out) k_ hk)); (case aO => exact (by exact Kd.R_mono (Kd.R_far (p := ⟨gb423, 1, none⟩) (Kd.R_far (p := ⟨gb423, 2, none⟩) (Kd.R_far (p := ⟨gb423, 1, none⟩) (Kd.R_far (p := ⟨gb423, 0, none⟩) (Kd.R_mono HO_412003.out (fun k_ hk => (⟨hk, hk.2⟩ : _ ∧ k_ ≠ gb423))) (fun _ hk => hk.2) (.int .i64 ((rd_T105 l0_3 x4_1).f0))) (fun _ hk => hk.2) (.string ((rd_T105 l0_3 x4_1).f1))) (fun _ hk => hk.2) (.int .i64 ((rd_T105 l0_3 x4_1).f2))) (fun _ hk => hk.2) (.string (((rd_T105 l0_3 x4_1).f1).extract 0 ((ji31) : Int).toNat))) (fun _ hk => hk.1.2))); (case aS => exact (below_size (by repeat (first | (with_reducible first | exact HB.out | refine below_set ?_ GE423.out))))); (case aL => have := LMc34.out; omega); intro v425 w45 ho hb hg hat; rw [← Ny424.out] at ho; have n0_ := Aside0.mk (Kd.R_over' (by exact (Kd.R_mono (Kd.R_far (p := ⟨gb423, 1, none⟩) (Kd.R_far (p := ⟨gb423, 2, none⟩) (Kd.R_far (p := ⟨gb423, 1, none⟩) (Kd.R_far (p := ⟨gb423, 0, none⟩) (Kd.R_types HO_412000.out BK423.out (by decide)) (fun _ hk => hk.2) (.int .i64 ((rd_T105 l0_3 x4_1).f0))) (fun _ hk => hk.2) (.string ((rd_T105 l0_3 x4_1).f1))) (fun _ hk => hk.2) (.int .i64 ((rd_T105 l0_3 x4_1).f2))) (fun _ hk => hk.2) (.string (((rd_T105 l0_3 x4_1).f1).extract 0 ((ji31) : Int).toNat))) (fun _ h_ => h_.1))) (Kd.R_typed (by exact (Kd.R_mono (Kd.R_far (p := ⟨gb423, 1, none⟩) (Kd.R_far (p := ⟨gb423, 2, none⟩) (Kd.R_far (p := ⟨gb423, 1, none⟩) (Kd.R_far (p := ⟨gb423, 0, none⟩) (Kd.R_mono HO_412003.out (fun k_ hk => (⟨hk, hk.2⟩ : _ ∧ k_ ≠ gb423))) (fun _ hk => hk.2) (.int .i64 ((rd_T105 l0_3 x4_1).f0))) (fun _ hk => hk.2) (.string ((rd_T105 l0_3 x4_1).f1))) (fun _ hk => hk.2) (.int .i64 ((rd_T105 l0_3 x4_1).f2))) (fun _ hk => hk.2) (.string (((rd_T105 l0_3 x4_1).f1).extract 0 ((ji31) : Int).toNat))) (fun _ h_ => h_.1)))) (by decide) hg); have n1_ := Aside0.mk (Kd.R_over' (by exact (Kd.R_mono (Kd.R_far (p := ⟨gb423, 1, none⟩) (Kd.R_far (p := ⟨gb423, 2, none⟩) (Kd.R_far (p := ⟨gb423, 1, none⟩) (Kd.R_far (p := ⟨gb423, 0, none⟩) (Kd.R_types HO_412001.out BK423.out (by decide)) (fun _ hk => hk.2) (.int .i64 ((rd_T105 l0_3 x4_1).f0))) (fun _ hk => hk.2) (.string ((rd_T105 l0_3 x4_1).f1))) (fun _ hk => hk.2) (.int .i64 ((rd_T105 l0_3 x4_1).f2))) (fun _ hk => hk.2) (.string (((rd_T105 l0_3 x4_1).f1).extract 0 ((ji31) : Int).toNat))) (fun _ h_ => h_.1))) (Kd.R_typed (by exact (Kd.R_mono (Kd.R_far (p := ⟨gb423, 1, none⟩) (Kd.R_far (p := ⟨gb423, 2, none⟩) (Kd.R_far (p := ⟨gb423, 1, none⟩) (Kd.R_far (p := ⟨gb423, 0, none⟩) (Kd.R_mono HO_412003.out (fun k_ hk => (⟨hk, hk.2⟩ : _ ∧ k_ ≠ gb423))) (fun _ hk => hk.2) (.int .i64 ((rd_T105 l0_3 x4_1).f0))) (fun _ hk => hk.2) (.string ((rd_T105 l0_3 x4_1).f1))) (fun _ hk => hk.2) (.int .i64 ((rd_T105 l0_3 x4_1).f2))) (fun _ hk => hk.2) (.string (((rd_T105 l0_3 x4_1).f1).extract 0 ((ji31) : Int).toNat))) (fun _ h_ => h_.1)))) (by decide) hg); have n2_ := Aside0.mk (Kd.R_over' (by exact (Kd.R_mono (Kd.R_far (p := ⟨gb423, 1, none⟩) (Kd.R_far (p := ⟨gb423, 2, none⟩) (Kd.R_far (p := ⟨gb423, 1, none⟩) (Kd.R_far (p := ⟨gb423, 0, none⟩) (Kd.R_types HO_412002.out BK423.out (by decide)) (fun _ hk => hk.2) (.int .i64 ((rd_T105 l0_3 x4_1).f0))) (fun _ hk => hk.2) (.string ((rd_T105 l0_3 x4_1).f1))) (fun _ hk => hk.2) (.int .i64 ((rd_T105 l0_3 x4_1).f2))) (fun _ hk => hk.2) (.string (((rd_T105 l0_3 x4_1).f1).extract 0 ((ji31) : Int).toNat))) (fun _ h_ => h_.1))) (Kd.R_typed (by exact (Kd.R_mono (Kd.R_far (p := ⟨gb423, 1, none⟩) (Kd.R_far (p := ⟨gb423, 2, none⟩) (Kd.R_far (p := ⟨gb423, 1, none⟩) (Kd.R_far (p := ⟨gb423, 0, none⟩) (Kd.R_mono HO_412003.out (fun k_ hk => (⟨hk, hk.2⟩ : _ ∧ k_ ≠ gb423))) (fun _ hk => hk.2) (.int .i64 ((rd_T105 l0_3 x4_1).f0))) (fun _ hk => hk.2) (.string ((rd_T105 l0_3 x4_1).f1))) (fun _ hk => hk.2) (.int .i64 ((rd_T105 l0_3 x4_1).f2))) (fun _ hk => hk.2) (.string (((rd_T105 l0_3 x4_1).f1).extract 0 ((ji31) : Int).toNat))) (fun _ h_ => h_.1)))) (by decide) hg); have n3_ := Aside0.mk (Kd.R_over' (by exact (Kd.R_mono (Kd.R_far (p := ⟨gb423, 1, none⟩) (Kd.R_far (p := ⟨gb423, 2, none⟩) (Kd.R_far (p := ⟨gb423, 1, none⟩) (Kd.R_far (p := ⟨gb423, 0, none⟩) (Kd.R_types HO_412004.out BK423.out (by decide)) (fun _ hk => hk.2) (.int .i64 ((rd_T105 l0_3 x4_1).f0))) (fun _ hk => hk.2) (.string ((rd_T105 l0_3 x4_1).f1))) (fun _ hk => hk.2) (.int .i64 ((rd_T105 l0_3 x4_1).f2))) (fun _ hk => hk.2) (.string (((rd_T105 l0_3 x4_1).f1).extract 0 ((ji31) : Int).toNat))) (fun _ h_ => h_.1))) (Kd.R_typed (by exact (Kd.R_mono (Kd.R_far (p := ⟨gb423, 1, none⟩) (Kd.R_far (p := ⟨gb423, 2, none⟩) (Kd.R_far (p := ⟨gb423, 1, none⟩) (Kd.R_far (p := ⟨gb423, 0, none⟩) (Kd.R_mono HO_412003.out (fun k_ hk => (⟨hk, hk.2⟩ : _ ∧ k_ ≠ gb423))) (fun _ hk => hk.2) (.int .i64 ((rd_T105 l0_3 x4_1).f0))) (fun _ hk => hk.2) (.string ((rd_T105 l0_3 x4_1).f1))) (fun _ hk => hk.2) (.int .i64 ((rd_T105 l0_3 x4_1).f2))) (fun _ hk => hk.2) (.string (((rd_T105 l0_3 x4_1).f1).extract 0 ((ji31) : Int).toNat))) (fun _ h_ => h_.1)))) (by decide) hg); have n4_ := Aside0.mk (blk_grown (g := gb394) (o := .cells #[.slice A0_0 l0_0.length c0_0, .slice A0_1 l0_1.length c0_1, .slice A0_2 l0_2.length c0_2, .slice (some ad422) l0_3.length c0_3, .slice A0_4 l0_4.length c0_4] 27 (0, 0)) (by refine blk_far ?_ NB394_423.out _; refine blk_far ?_ NB394_423.out _; refine blk_far ?_ NB394_423.out _; refine blk_far ?_ NB394_423.out _; exact BK394.out) hg (Kd.R_ne HO_412003.out BK394.out (by decide))); have n5_ := Aside0.mk (blk_grown (g := gb395) (o := .cells #[.slice none 0 0, .slice none 0 0, .slice none 0 0, .slice none 0 0, .slice none 0 0] 27 (0, 0)) (by refine blk_far ?_ NB395_423.out _; refine blk_far ?_ NB395_423.out _; refine blk_far ?_ NB395_423.out _; refine blk_far ?_ NB395_423.out _; exact BK395.out) hg (Kd.R_ne HO_412003.out BK395.out (by decide))); have n6_ := Aside0.mk (blk_grown (g := gb411) (o := .cells #[.slice Ao26 y419.length co26, .slice Ao17 t399.length co17, .slice Ao18 t402.length co18, u412003, .slice Ao20 t408.length co20] 27 (0, 0)) (by refine blk_far ?_ NB411_423.out _; refine blk_far ?_ NB411_423.out _; refine blk_far ?_ NB411_423.out _; refine blk_far ?_ NB411_423.out _; exact BK411.out) hg (Kd.R_ne HO_412003.out BK411.out (by decide))); have n7_ := Aside0.mk (blk_grown (g := gb423) (o := .cells #[.int .i64 ((rd_T105 l0_3 x4_1).f0), .string (((rd_T105 l0_3 x4_1).f1).extract 0 ((ji31) : Int).toNat), .int .i64 ((rd_T105 l0_3 x4_1).f2)] 105 (0, 0)) (by refine blk_put (cs := #[.int .i64 ((rd_T105 l0_3 x4_1).f0), .string ((rd_T105 l0_3 x4_1).f1), .int .i64 ((rd_T105 l0_3 x4_1).f2)]) ?_ 1 _ rfl; refine blk_put (cs := #[.int .i64 ((rd_T105 l0_3 x4_1).f0), .string ((rd_T105 l0_3 x4_1).f1), .int .i64 0]) ?_ 2 _ rfl; refine blk_put (cs := #[.int .i64 ((rd_T105 l0_3 x4_1).f0), .string (⟨#[]⟩ : ByteArray), .int .i64 0]) ?_ 1 _ rfl; refine blk_put (cs := #[.int .i64 0, .string (⟨#[]⟩ : ByteArray), .int .i64 0]) ?_ 0 _ rfl; exact BK423.out) hg (Kd.R_away HO_412003.out (fun _ hk => hk.2))); have n8_ := Aside0.mk (hb); have n9_ := Aside0.mk (ho); clear HO_412000; clear HO_412001; clear HO_412002; clear HO_412004; clear BK394; clear BK395; clear BK411; clear BK423; clear HB; clear HO_412003; have HO_412000 := n0_; have HO_412001 := n1_; have HO_412002 := n2_; have HO_412004 := n3_; have BK394 := n4_; have BK395 := n5_; have BK411 := n6_; have BK423 := n7_; have HB := n8_; have HO426 := n9_; clear n0_ n1_ n2_ n3_ n4_ n5_ n6_ n7_ n8_ n9_; clear ho hb hg hat; obtain ⟨Ao46, co46, eo46⟩ := Kd.R_slice HO426.out; subst eo46; have hcz47_0 : w45.cell? ⟨gb411, 0, none⟩ = some (.slice Ao26 y419.length co26) := (blk_cell BK411.out 0).trans rfl; have hcz47_1 : w45.cell? ⟨gb411, 1, none⟩ = some (.slice Ao17 t399.length co17) := (blk_cell BK411.out 1).trans rfl; have hcz47_2 : w45.cell? ⟨gb411, 2, none⟩ = some (.slice Ao18 t402.length co18) := (blk_cell BK411.out 2).trans rfl; have hcz47_3 : w45.cell? ⟨gb411, 3, none⟩ = some (u412003) := (blk_cell BK411.out 3).trans rfl; have hcz47_4 : w45.cell? ⟨gb411, 4, none⟩ = some (.slice Ao20 t408.length co20) := (blk_cell BK411.out 4).trans rfl; have hfz47_0 := blk_frozen BK411.out 0; have hfz47_1 := blk_frozen BK411.out 1; have hfz47_2 := blk_frozen BK411.out 2; have hfz47_3 := blk_frozen BK411.out 3; have hfz47_4 := blk_frozen BK411.out 4))
                        go_roundg k1
                        case measure => have := HK1.out; omega
                        case rel => exact ⟨(wrap64 (x4_1 + 1)), (y424), (.slice Ao46 y424.length co46), rfl, H', ⟨by have := HK1.out; omega⟩, ⟨by exact Kd.R_mono (Kd.R_far (p := ⟨gb411, 3, none⟩) (Kd.R_types HO_412000.out BK411.out (by decide)) (fun _ hk => hk.2) (.slice Ao46 y424.length co46)) (fun _ hk => trivial)⟩, ⟨by exact Kd.R_mono (Kd.R_far (p := ⟨gb411, 3, none⟩) (Kd.R_types HO_412001.out BK411.out (by decide)) (fun _ hk => hk.2) (.slice Ao46 y424.length co46)) (fun _ hk => hk.1)⟩, ⟨by exact Kd.R_mono (Kd.R_far (p := ⟨gb411, 3, none⟩) (Kd.R_types HO_412002.out BK411.out (by decide)) (fun _ hk => hk.2) (.slice Ao46 y424.length co46)) (fun _ hk => trivial)⟩, ⟨by exact Kd.R_mono (Kd.R_far (p := ⟨gb411, 3, none⟩) (Kd.R_types HO426.out BK411.out (by decide)) (fun _ hk => hk.2) (.slice Ao46 y424.length co46)) (fun _ hk => trivial)⟩, ⟨by exact Kd.R_mono (Kd.R_far (p := ⟨gb411, 3, none⟩) (Kd.R_types HO_412004.out BK411.out (by decide)) (fun _ hk => hk.2) (.slice Ao46 y424.length co46)) (fun _ hk => hk.1)⟩, ⟨by refine blk_far ?_ NB394_411.out _; exact BK394.out⟩, ⟨by refine blk_far ?_ NB395_411.out _; exact BK395.out⟩, ⟨by refine blk_put (cs := #[.slice Ao26 y419.length co26, .slice Ao17 t399.length co17, .slice Ao18 t402.length co18, u412003, .slice Ao20 t408.length co20]) ?_ 3 _ rfl; exact BK411.out⟩, ⟨by repeat (first | (with_reducible first | exact HB.out | refine below_set ?_ GE411.out))⟩⟩
                      · rw [if_neg c34] at H
                        exact absurd H (by simp)
                    · rw [if_neg c33] at H
                      exact absurd H (by simp)
                  · rw [if_neg c32] at H
                    exact absurd H (by simp)
                · rw [if_neg c30] at H
                  exact absurd H (by simp)
              · rw [if_neg c29] at H
                have c29b0 : decide (x4_1 < 40) = false := decide_eq_false c29
                clear c29
                simp only [Option.some.injEq, Prod.mk.injEq] at H
                obtain ⟨rfl, rfl, rfl, rfl, rfl⟩ := H
                have hnb48 := NB394_395.out
                have hnc48 := NB395_394.out
                have hnb49 := NB394_411.out
                have hnc49 := NB411_394.out
                have hcz50_0 : wr.cell? ⟨gb394, 0, none⟩ = some (.slice A0_0 l0_0.length c0_0) := (blk_cell BK394.out 0).trans rfl
                have hcz50_1 : wr.cell? ⟨gb394, 1, none⟩ = some (.slice A0_1 l0_1.length c0_1) := (blk_cell BK394.out 1).trans rfl
                have hcz50_2 : wr.cell? ⟨gb394, 2, none⟩ = some (.slice A0_2 l0_2.length c0_2) := (blk_cell BK394.out 2).trans rfl
                have hcz50_3 : wr.cell? ⟨gb394, 3, none⟩ = some (.slice A0_3 l0_3.length c0_3) := (blk_cell BK394.out 3).trans rfl
                have hcz50_4 : wr.cell? ⟨gb394, 4, none⟩ = some (.slice A0_4 l0_4.length c0_4) := (blk_cell BK394.out 4).trans rfl
                have hfz50_0 := blk_frozen BK394.out 0
                have hfz50_1 := blk_frozen BK394.out 1
                have hfz50_2 := blk_frozen BK394.out 2
                have hfz50_3 := blk_frozen BK394.out 3
                have hfz50_4 := blk_frozen BK394.out 4
                have hnb51 := NB411_395.out
                have hnc51 := NB395_411.out
                have hcz52_0 : wr.cell? ⟨gb411, 0, none⟩ = some (.slice Ao26 y419.length co26) := (blk_cell BK411.out 0).trans rfl
                have hcz52_1 : wr.cell? ⟨gb411, 1, none⟩ = some (.slice Ao17 t399.length co17) := (blk_cell BK411.out 1).trans rfl
                have hcz52_2 : wr.cell? ⟨gb411, 2, none⟩ = some (.slice Ao18 t402.length co18) := (blk_cell BK411.out 2).trans rfl
                have hcz52_3 : wr.cell? ⟨gb411, 3, none⟩ = some (u412003) := (blk_cell BK411.out 3).trans rfl
                have hcz52_4 : wr.cell? ⟨gb411, 4, none⟩ = some (.slice Ao20 t408.length co20) := (blk_cell BK411.out 4).trans rfl
                have hfz52_0 := blk_frozen BK411.out 0
                have hfz52_1 := blk_frozen BK411.out 1
                have hfz52_2 := blk_frozen BK411.out 2
                have hfz52_3 := blk_frozen BK411.out 3
                have hfz52_4 := blk_frozen BK411.out 4
                have hcz53_0 : wr.cell? ⟨gb395, 0, none⟩ = some (.slice none 0 0) := (blk_cell BK395.out 0).trans rfl
                have hcz53_1 : wr.cell? ⟨gb395, 1, none⟩ = some (.slice none 0 0) := (blk_cell BK395.out 1).trans rfl
                have hcz53_2 : wr.cell? ⟨gb395, 2, none⟩ = some (.slice none 0 0) := (blk_cell BK395.out 2).trans rfl
                have hcz53_3 : wr.cell? ⟨gb395, 3, none⟩ = some (.slice none 0 0) := (blk_cell BK395.out 3).trans rfl
                have hcz53_4 : wr.cell? ⟨gb395, 4, none⟩ = some (.slice none 0 0) := (blk_cell BK395.out 4).trans rfl
                have hfz53_0 := blk_frozen BK395.out 0
                have hfz53_1 := blk_frozen BK395.out 1
                have hfz53_2 := blk_frozen BK395.out 2
                have hfz53_3 := blk_frozen BK395.out 3
                have hfz53_4 := blk_frozen BK395.out 4
                obtain ⟨Ao54, co54, eo54⟩ := Kd.R_slice HO_412003.out
                subst eo54
                go_wp2
                refine bodyPost_ret (results_cell_row rfl _ _ gb395 27 #[.slice Ao26 y419.length co26, .slice Ao17 t399.length co17, .slice Ao18 t402.length co18, .slice Ao54 x412003_1.length co54, .slice Ao20 t408.length co20] (0, 0) _ rfl (by refine blk_put (cs := #[.slice Ao26 y419.length co26, .slice Ao17 t399.length co17, .slice Ao18 t402.length co18, .slice Ao54 x412003_1.length co54, .slice none 0 0]) ?_ 4 _ rfl; refine blk_put (cs := #[.slice Ao26 y419.length co26, .slice Ao17 t399.length co17, .slice Ao18 t402.length co18, .slice none 0 0, .slice none 0 0]) ?_ 3 _ rfl; refine blk_put (cs := #[.slice Ao26 y419.length co26, .slice Ao17 t399.length co17, .slice none 0 0, .slice none 0 0, .slice none 0 0]) ?_ 2 _ rfl; refine blk_put (cs := #[.slice Ao26 y419.length co26, .slice none 0 0, .slice none 0 0, .slice none 0 0, .slice none 0 0]) ?_ 1 _ rfl; refine blk_put (cs := #[.slice none 0 0, .slice none 0 0, .slice none 0 0, .slice none 0 0, .slice none 0 0]) ?_ 0 _ rfl; exact BK395.out) Tryz.underlying27 rfl (by kernel_rfl)) rfl ?_
                exact ⟨_, _, _, _, _, by first | rfl, by exact Kd.R_mono (Kd.R_far (p := ⟨gb395, 4, none⟩) (Kd.R_far (p := ⟨gb395, 3, none⟩) (Kd.R_far (p := ⟨gb395, 2, none⟩) (Kd.R_far (p := ⟨gb395, 1, none⟩) (Kd.R_far (p := ⟨gb395, 0, none⟩) (Kd.R_types HO_412000.out BK395.out (by decide)) (fun _ hk => hk.2) (.slice Ao26 y419.length co26)) (fun _ hk => hk.2) (.slice Ao17 t399.length co17)) (fun _ hk => hk.2) (.slice Ao18 t402.length co18)) (fun _ hk => hk.2) (.slice Ao54 x412003_1.length co54)) (fun _ hk => hk.2) (.slice Ao20 t408.length co20)) (fun _ hk => trivial), by exact Kd.R_mono (Kd.R_far (p := ⟨gb395, 4, none⟩) (Kd.R_far (p := ⟨gb395, 3, none⟩) (Kd.R_far (p := ⟨gb395, 2, none⟩) (Kd.R_far (p := ⟨gb395, 1, none⟩) (Kd.R_far (p := ⟨gb395, 0, none⟩) (Kd.R_types HO_412001.out BK395.out (by decide)) (fun _ hk => hk.2) (.slice Ao26 y419.length co26)) (fun _ hk => hk.2) (.slice Ao17 t399.length co17)) (fun _ hk => hk.2) (.slice Ao18 t402.length co18)) (fun _ hk => hk.2) (.slice Ao54 x412003_1.length co54)) (fun _ hk => hk.2) (.slice Ao20 t408.length co20)) (fun _ hk => hk.1), by exact Kd.R_mono (Kd.R_far (p := ⟨gb395, 4, none⟩) (Kd.R_far (p := ⟨gb395, 3, none⟩) (Kd.R_far (p := ⟨gb395, 2, none⟩) (Kd.R_far (p := ⟨gb395, 1, none⟩) (Kd.R_far (p := ⟨gb395, 0, none⟩) (Kd.R_types HO_412002.out BK395.out (by decide)) (fun _ hk => hk.2) (.slice Ao26 y419.length co26)) (fun _ hk => hk.2) (.slice Ao17 t399.length co17)) (fun _ hk => hk.2) (.slice Ao18 t402.length co18)) (fun _ hk => hk.2) (.slice Ao54 x412003_1.length co54)) (fun _ hk => hk.2) (.slice Ao20 t408.length co20)) (fun _ hk => trivial), by exact Kd.R_mono (Kd.R_far (p := ⟨gb395, 4, none⟩) (Kd.R_far (p := ⟨gb395, 3, none⟩) (Kd.R_far (p := ⟨gb395, 2, none⟩) (Kd.R_far (p := ⟨gb395, 1, none⟩) (Kd.R_far (p := ⟨gb395, 0, none⟩) (Kd.R_types HO_412003.out BK395.out (by decide)) (fun _ hk => hk.2) (.slice Ao26 y419.length co26)) (fun _ hk => hk.2) (.slice Ao17 t399.length co17)) (fun _ hk => hk.2) (.slice Ao18 t402.length co18)) (fun _ hk => hk.2) (.slice Ao54 x412003_1.length co54)) (fun _ hk => hk.2) (.slice Ao20 t408.length co20)) (fun _ hk => trivial), by exact Kd.R_mono (Kd.R_far (p := ⟨gb395, 4, none⟩) (Kd.R_far (p := ⟨gb395, 3, none⟩) (Kd.R_far (p := ⟨gb395, 2, none⟩) (Kd.R_far (p := ⟨gb395, 1, none⟩) (Kd.R_far (p := ⟨gb395, 0, none⟩) (Kd.R_types HO_412004.out BK395.out (by decide)) (fun _ hk => hk.2) (.slice Ao26 y419.length co26)) (fun _ hk => hk.2) (.slice Ao17 t399.length co17)) (fun _ hk => hk.2) (.slice Ao18 t402.length co18)) (fun _ hk => hk.2) (.slice Ao54 x412003_1.length co54)) (fun _ hk => hk.2) (.slice Ao20 t408.length co20)) (fun _ hk => hk.1), by repeat (first | (with_reducible first | exact HB.out | refine below_set ?_ GE395.out))⟩
            · rw [if_neg c28] at H
              have c28b0 : decide (x4_1 < (l0_3.length : Int)) = false := decide_eq_false c28
              clear c28
              simp only [Option.some.injEq, Prod.mk.injEq] at H
              obtain ⟨rfl, rfl, rfl, rfl, rfl⟩ := H
              have hnb55 := NB394_395.out
              have hnc55 := NB395_394.out
              have hnb56 := NB394_411.out
              have hnc56 := NB411_394.out
              have hcz57_0 : wr.cell? ⟨gb394, 0, none⟩ = some (.slice A0_0 l0_0.length c0_0) := (blk_cell BK394.out 0).trans rfl
              have hcz57_1 : wr.cell? ⟨gb394, 1, none⟩ = some (.slice A0_1 l0_1.length c0_1) := (blk_cell BK394.out 1).trans rfl
              have hcz57_2 : wr.cell? ⟨gb394, 2, none⟩ = some (.slice A0_2 l0_2.length c0_2) := (blk_cell BK394.out 2).trans rfl
              have hcz57_3 : wr.cell? ⟨gb394, 3, none⟩ = some (.slice A0_3 l0_3.length c0_3) := (blk_cell BK394.out 3).trans rfl
              have hcz57_4 : wr.cell? ⟨gb394, 4, none⟩ = some (.slice A0_4 l0_4.length c0_4) := (blk_cell BK394.out 4).trans rfl
              have hfz57_0 := blk_frozen BK394.out 0
              have hfz57_1 := blk_frozen BK394.out 1
              have hfz57_2 := blk_frozen BK394.out 2
              have hfz57_3 := blk_frozen BK394.out 3
              have hfz57_4 := blk_frozen BK394.out 4
              have hnb58 := NB411_395.out
              have hnc58 := NB395_411.out
              have hcz59_0 : wr.cell? ⟨gb411, 0, none⟩ = some (.slice Ao26 y419.length co26) := (blk_cell BK411.out 0).trans rfl
              have hcz59_1 : wr.cell? ⟨gb411, 1, none⟩ = some (.slice Ao17 t399.length co17) := (blk_cell BK411.out 1).trans rfl
              have hcz59_2 : wr.cell? ⟨gb411, 2, none⟩ = some (.slice Ao18 t402.length co18) := (blk_cell BK411.out 2).trans rfl
              have hcz59_3 : wr.cell? ⟨gb411, 3, none⟩ = some (u412003) := (blk_cell BK411.out 3).trans rfl
              have hcz59_4 : wr.cell? ⟨gb411, 4, none⟩ = some (.slice Ao20 t408.length co20) := (blk_cell BK411.out 4).trans rfl
              have hfz59_0 := blk_frozen BK411.out 0
              have hfz59_1 := blk_frozen BK411.out 1
              have hfz59_2 := blk_frozen BK411.out 2
              have hfz59_3 := blk_frozen BK411.out 3
              have hfz59_4 := blk_frozen BK411.out 4
              have hcz60_0 : wr.cell? ⟨gb395, 0, none⟩ = some (.slice none 0 0) := (blk_cell BK395.out 0).trans rfl
              have hcz60_1 : wr.cell? ⟨gb395, 1, none⟩ = some (.slice none 0 0) := (blk_cell BK395.out 1).trans rfl
              have hcz60_2 : wr.cell? ⟨gb395, 2, none⟩ = some (.slice none 0 0) := (blk_cell BK395.out 2).trans rfl
              have hcz60_3 : wr.cell? ⟨gb395, 3, none⟩ = some (.slice none 0 0) := (blk_cell BK395.out 3).trans rfl
              have hcz60_4 : wr.cell? ⟨gb395, 4, none⟩ = some (.slice none 0 0) := (blk_cell BK395.out 4).trans rfl
              have hfz60_0 := blk_frozen BK395.out 0
              have hfz60_1 := blk_frozen BK395.out 1
              have hfz60_2 := blk_frozen BK395.out 2
              have hfz60_3 := blk_frozen BK395.out 3
              have hfz60_4 := blk_frozen BK395.out 4
              obtain ⟨Ao61, co61, eo61⟩ := Kd.R_slice HO_412003.out
              subst eo61
              go_wp2
              refine bodyPost_ret (results_cell_row rfl _ _ gb395 27 #[.slice Ao26 y419.length co26, .slice Ao17 t399.length co17, .slice Ao18 t402.length co18, .slice Ao61 x412003_1.length co61, .slice Ao20 t408.length co20] (0, 0) _ rfl (by refine blk_put (cs := #[.slice Ao26 y419.length co26, .slice Ao17 t399.length co17, .slice Ao18 t402.length co18, .slice Ao61 x412003_1.length co61, .slice none 0 0]) ?_ 4 _ rfl; refine blk_put (cs := #[.slice Ao26 y419.length co26, .slice Ao17 t399.length co17, .slice Ao18 t402.length co18, .slice none 0 0, .slice none 0 0]) ?_ 3 _ rfl; refine blk_put (cs := #[.slice Ao26 y419.length co26, .slice Ao17 t399.length co17, .slice none 0 0, .slice none 0 0, .slice none 0 0]) ?_ 2 _ rfl; refine blk_put (cs := #[.slice Ao26 y419.length co26, .slice none 0 0, .slice none 0 0, .slice none 0 0, .slice none 0 0]) ?_ 1 _ rfl; refine blk_put (cs := #[.slice none 0 0, .slice none 0 0, .slice none 0 0, .slice none 0 0, .slice none 0 0]) ?_ 0 _ rfl; exact BK395.out) Tryz.underlying27 rfl (by kernel_rfl)) rfl ?_
              exact ⟨_, _, _, _, _, by first | rfl, by exact Kd.R_mono (Kd.R_far (p := ⟨gb395, 4, none⟩) (Kd.R_far (p := ⟨gb395, 3, none⟩) (Kd.R_far (p := ⟨gb395, 2, none⟩) (Kd.R_far (p := ⟨gb395, 1, none⟩) (Kd.R_far (p := ⟨gb395, 0, none⟩) (Kd.R_types HO_412000.out BK395.out (by decide)) (fun _ hk => hk.2) (.slice Ao26 y419.length co26)) (fun _ hk => hk.2) (.slice Ao17 t399.length co17)) (fun _ hk => hk.2) (.slice Ao18 t402.length co18)) (fun _ hk => hk.2) (.slice Ao61 x412003_1.length co61)) (fun _ hk => hk.2) (.slice Ao20 t408.length co20)) (fun _ hk => trivial), by exact Kd.R_mono (Kd.R_far (p := ⟨gb395, 4, none⟩) (Kd.R_far (p := ⟨gb395, 3, none⟩) (Kd.R_far (p := ⟨gb395, 2, none⟩) (Kd.R_far (p := ⟨gb395, 1, none⟩) (Kd.R_far (p := ⟨gb395, 0, none⟩) (Kd.R_types HO_412001.out BK395.out (by decide)) (fun _ hk => hk.2) (.slice Ao26 y419.length co26)) (fun _ hk => hk.2) (.slice Ao17 t399.length co17)) (fun _ hk => hk.2) (.slice Ao18 t402.length co18)) (fun _ hk => hk.2) (.slice Ao61 x412003_1.length co61)) (fun _ hk => hk.2) (.slice Ao20 t408.length co20)) (fun _ hk => hk.1), by exact Kd.R_mono (Kd.R_far (p := ⟨gb395, 4, none⟩) (Kd.R_far (p := ⟨gb395, 3, none⟩) (Kd.R_far (p := ⟨gb395, 2, none⟩) (Kd.R_far (p := ⟨gb395, 1, none⟩) (Kd.R_far (p := ⟨gb395, 0, none⟩) (Kd.R_types HO_412002.out BK395.out (by decide)) (fun _ hk => hk.2) (.slice Ao26 y419.length co26)) (fun _ hk => hk.2) (.slice Ao17 t399.length co17)) (fun _ hk => hk.2) (.slice Ao18 t402.length co18)) (fun _ hk => hk.2) (.slice Ao61 x412003_1.length co61)) (fun _ hk => hk.2) (.slice Ao20 t408.length co20)) (fun _ hk => trivial), by exact Kd.R_mono (Kd.R_far (p := ⟨gb395, 4, none⟩) (Kd.R_far (p := ⟨gb395, 3, none⟩) (Kd.R_far (p := ⟨gb395, 2, none⟩) (Kd.R_far (p := ⟨gb395, 1, none⟩) (Kd.R_far (p := ⟨gb395, 0, none⟩) (Kd.R_types HO_412003.out BK395.out (by decide)) (fun _ hk => hk.2) (.slice Ao26 y419.length co26)) (fun _ hk => hk.2) (.slice Ao17 t399.length co17)) (fun _ hk => hk.2) (.slice Ao18 t402.length co18)) (fun _ hk => hk.2) (.slice Ao61 x412003_1.length co61)) (fun _ hk => hk.2) (.slice Ao20 t408.length co20)) (fun _ hk => trivial), by exact Kd.R_mono (Kd.R_far (p := ⟨gb395, 4, none⟩) (Kd.R_far (p := ⟨gb395, 3, none⟩) (Kd.R_far (p := ⟨gb395, 2, none⟩) (Kd.R_far (p := ⟨gb395, 1, none⟩) (Kd.R_far (p := ⟨gb395, 0, none⟩) (Kd.R_types HO_412004.out BK395.out (by decide)) (fun _ hk => hk.2) (.slice Ao26 y419.length co26)) (fun _ hk => hk.2) (.slice Ao17 t399.length co17)) (fun _ hk => hk.2) (.slice Ao18 t402.length co18)) (fun _ hk => hk.2) (.slice Ao61 x412003_1.length co61)) (fun _ hk => hk.2) (.slice Ao20 t408.length co20)) (fun _ hk => hk.1), by repeat (first | (with_reducible first | exact HB.out | refine below_set ?_ GE395.out))⟩
      · rw [if_neg c6] at H
        exact absurd H (by simp)
    · rw [if_neg c5] at H
      exact absurd H (by simp)
  · rw [if_neg c4] at H
    exact absurd H (by simp)

/-! ### proofmarklaw30_tidy: function 20 -/
def proofmarklaw30_tidy.l0 : Nat → Int → List (S125) → List (S72) → List (S114) → List (S105) → List (S72) → Option ((List (S125)) × (List (S72)) × (List (S114)) × (List (S105)) × (List (S72)))
  | 0, _, _, _, _, _, _ => none
  | k + 1, x4, x445000, x445001, x445002, x445003, x445004 => if x4 < (x445003.length : Int) then (if 0 ≤ x4 then ((proofmarkref27_Plain.f k ((rd_T105 x445003 x4).f1)).bind fun t446 => (if t446 = true then (proofmarklaw30_tidy.l0 k (wrap64 (x4 + 1)) x445000 x445001 x445002 x445003 x445004) else (proofmarklaw30_tidy.l0 k (wrap64 (x4 + 1)) x445000 x445001 x445002 (x445003.set (x4 : Int).toNat (⟨(rd_T105 x445003 x4).f0, (⟨#[112]⟩ : ByteArray), (rd_T105 x445003 x4).f2⟩ : S105)) x445004))) else (none)) else (some (x445000, x445001, x445002, x445003, x445004))
def proofmarklaw30_tidy.f (k : Nat) (l0_0 : List (S125)) (l0_1 : List (S72)) (l0_2 : List (S114)) (l0_3 : List (S105)) (l0_4 : List (S72)) : Option ((List (S125)) × (List (S72)) × (List (S114)) × (List (S105)) × (List (S72))) := (proofmarkref30_Few.f k l0_0 l0_1 l0_2 l0_3 l0_4).bind fun bt429 => (proofmarklaw30_tidy.l0 k 0 bt429.1 bt429.2.1 bt429.2.2.1 bt429.2.2.2.1 bt429.2.2.2.2)
theorem proofmarklaw30_tidy.mono_l : ∀ k, (∀ y0 y1 y2 y3 y4 y5, LeO (proofmarklaw30_tidy.l0 k y0 y1 y2 y3 y4 y5) (proofmarklaw30_tidy.l0 (k + 1) y0 y1 y2 y3 y4 y5))
  | 0 => fun _ _ _ _ _ _ r h => by simp [proofmarklaw30_tidy.l0] at h
  | k + 1 => by
    have ih0 := proofmarklaw30_tidy.mono_l k
    · intro y0 y1 y2 y3 y4 y5
      unfold proofmarklaw30_tidy.l0
      repeat' first
      | (with_reducible exact ih0 _ _ _ _ _ _)
      | (with_reducible exact proofmarkref27_Plain.mono _ _)
      | (with_reducible exact proofmarkref30_Few.mono _ _ _ _ _ _)
      | (with_reducible exact LeO.refl _)
      | (with_reducible exact LeO.none _)
      | (with_reducible refine LeO.ite ?_ ?_)
      | (with_reducible refine LeO.bind ?_ (fun _ => ?_))
      | exact ih0 _ _ _ _ _ _
      | exact proofmarkref27_Plain.mono _ _
      | exact proofmarkref30_Few.mono _ _ _ _ _ _
      | exact LeO.none _
      | refine LeO.ite ?_ ?_
      | refine LeO.bind ?_ (fun _ => ?_)
theorem proofmarklaw30_tidy.mono : ∀ a0 a1 a2 a3 a4 k, LeO (proofmarklaw30_tidy.f k a0 a1 a2 a3 a4) (proofmarklaw30_tidy.f (k + 1) a0 a1 a2 a3 a4) := by
  intro a0 a1 a2 a3 a4 k
  have ih0 := proofmarklaw30_tidy.mono_l k
  unfold proofmarklaw30_tidy.f
  repeat' first
      | (with_reducible exact ih0 _ _ _ _ _ _)
      | (with_reducible exact proofmarkref27_Plain.mono _ _)
      | (with_reducible exact proofmarkref30_Few.mono _ _ _ _ _ _)
      | (with_reducible exact LeO.refl _)
      | (with_reducible exact LeO.none _)
      | (with_reducible refine LeO.ite ?_ ?_)
      | (with_reducible refine LeO.bind ?_ (fun _ => ?_))
      | exact ih0 _ _ _ _ _ _
      | exact proofmarkref27_Plain.mono _ _
      | exact proofmarkref30_Few.mono _ _ _ _ _ _
      | exact LeO.none _
      | refine LeO.ite ?_ ?_
      | refine LeO.bind ?_ (fun _ => ?_)
set_option maxHeartbeats 8000000 in
set_option maxRecDepth 100000 in
theorem proofmarklaw30_tidy.calls (k : Nat) (A0_0 : Option Addr) (c0_0 : Nat) (l0_0 : List (S125)) (A0_1 : Option Addr) (c0_1 : Nat) (l0_1 : List (S72)) (A0_2 : Option Addr) (c0_2 : Nat) (l0_2 : List (S114)) (A0_3 : Option Addr) (c0_3 : Nat) (l0_3 : List (S105)) (A0_4 : Option Addr) (c0_4 : Nat) (l0_4 : List (S72)) (r1 : List (S125)) (r2 : List (S72)) (r3 : List (S114)) (r4 : List (S105)) (r5 : List (S72)) (w : World) (hr0_0 : Kd.C k125 w A0_0 l0_0.length l0_0) (hc0_0 : l0_0.length ≤ c0_0) (hr0_1 : Kd.C k72 w A0_1 l0_1.length l0_1) (hc0_1 : l0_1.length ≤ c0_1) (hr0_2 : Kd.C k114 w A0_2 l0_2.length l0_2) (hc0_2 : l0_2.length ≤ c0_2) (hr0_3 : Kd.C k105 w A0_3 l0_3.length l0_3) (hc0_3 : l0_3.length ≤ c0_3) (hr0_4 : Kd.C k72 w A0_4 l0_4.length l0_4) (hc0_4 : l0_4.length ≤ c0_4) (h : proofmarklaw30_tidy.f k l0_0 l0_1 l0_2 l0_3 l0_4 = some (r1, r2, r3, r4, r5)) :
    Calls Tryz.prog 20 #[.agg #[.slice A0_0 l0_0.length c0_0, .slice A0_1 l0_1.length c0_1, .slice A0_2 l0_2.length c0_2, .slice A0_3 l0_3.length c0_3, .slice A0_4 l0_4.length c0_4]] w fun e w' => ∃ v0_ v1_ v2_ v3_ v4_ : Value, e = .returned (.agg #[v0_, v1_, v2_, v3_, v4_]) ∧ Kd.R k125 125 w' w.heap.size (fun _ => True) v0_ r1 ∧ Kd.R k72 72 w' w.heap.size (fun k_ => some k_ ≠ (v4_ : Value).ownBlock) v1_ r2 ∧ Kd.R k114 114 w' w.heap.size (fun _ => True) v2_ r3 ∧ Kd.R k105 105 w' w.heap.size (fun _ => True) v3_ r4 ∧ Kd.R k72 72 w' w.heap.size (fun k_ => some k_ ≠ (v1_ : Value).ownBlock) v4_ r5 ∧ Below w.heap.size w w' := by
  have hu27 := Tryz.underlying27
  have HR0_0 := Aside0.mk hr0_0
  have HC0_0 := Aside0.mk hc0_0
  clear hr0_0 hc0_0
  have HR0_1 := Aside0.mk hr0_1
  have HC0_1 := Aside0.mk hc0_1
  clear hr0_1 hc0_1
  have HR0_2 := Aside0.mk hr0_2
  have HC0_2 := Aside0.mk hc0_2
  clear hr0_2 hc0_2
  have HR0_3 := Aside0.mk hr0_3
  have HC0_3 := Aside0.mk hc0_3
  clear hr0_3 hc0_3
  have HR0_4 := Aside0.mk hr0_4
  have HC0_4 := Aside0.mk hc0_4
  clear hr0_4 hc0_4
  have HB := Aside0.mk (Below.refl w.heap.size w)
  have H : ((proofmarkref30_Few.f k l0_0 l0_1 l0_2 l0_3 l0_4).bind fun bt429 => (proofmarklaw30_tidy.l0 k 0 bt429.1 bt429.2.1 bt429.2.2.1 bt429.2.2.2.1 bt429.2.2.2.2)) = some (r1, r2, r3, r4, r5) := h
  clear h
  replace H := Option.bind_eq_some_iff.mp H
  obtain ⟨⟨t429, t432, t435, t438, t441⟩, A20, H⟩ := H
  replace H : (proofmarklaw30_tidy.l0 k 0 t429 t432 t435 t438 t441) = some (r1, r2, r3, r4, r5) := H
  have A2 := Aside0.mk A20
  clear A20
  have H' := Aside0.mk H
  clear H
  go_enter Tryz.func20, Tryz.ntmps20
  go_wp2_with (first | ((with_reducible refine gate_dst (N := 1) rfl ?_); refine box_event ?hg (N := 1) ?hd (cs := #[.slice A0_0 l0_0.length c0_0, .slice A0_1 l0_1.length c0_1, .slice A0_2 l0_2.length c0_2, .slice A0_3 l0_3.length c0_3, .slice A0_4 l0_4.length c0_4]) (t := 27) ?hr ?_; (case hd => rfl); (case hg => rfl); (case hr => first | (go_simp; done)); intro gb427 hg w3 hbox hb; have n0_ := Aside0.mk (below_step HB.out hb); have n1_ := Aside0.mk (hbox); have n2_ := Aside0.mk ((by rw [hg]; exact (below_size HB.out) : w.heap.size ≤ gb427)); have n3_ := Aside0.mk ((by rw [hg]; exact (below_size HB.out) : w.heap.size ≤ gb427)); clear HB; have HB := n0_; have BK427 := n1_; have GW427 := n2_; have GE427 := n3_; clear n0_ n1_ n2_ n3_; clear hb hbox hg) | ((with_reducible refine gate_dst (N := 2) rfl ?_); refine box_event ?hg (N := 2) ?hd (cs := #[.slice none 0 0, .slice none 0 0, .slice none 0 0, .slice none 0 0, .slice none 0 0]) (t := 27) ?hr ?_; (case hd => rfl); (case hg => rfl); (case hr => first | (go_simp; done)); intro gb428 hg w4 hbox hb; have n0_ := Aside0.mk (blk_below BK427.out hb); have n1_ := Aside0.mk (below_step HB.out hb); have n2_ := Aside0.mk (hbox); have n3_ := Aside0.mk ((by rw [hg]; exact (below_size HB.out) : w.heap.size ≤ gb428)); have n4_ := Aside0.mk ((by rw [hg]; exact (below_size HB.out) : w.heap.size ≤ gb428)); have n5_ := Aside0.mk ((by rw [hg]; exact Nat.ne_of_lt (blk_lt BK427.out) : gb427 ≠ gb428)); have n6_ := Aside0.mk ((by rw [hg]; exact Nat.ne_of_gt (blk_lt BK427.out) : gb428 ≠ gb427)); clear BK427; clear HB; have BK427 := n0_; have HB := n1_; have BK428 := n2_; have GW428 := n3_; have GE428 := n4_; have NB427_428 := n5_; have NB428_427 := n6_; clear n0_ n1_ n2_ n3_ n4_ n5_ n6_; clear hb hbox hg; have hnb5 := NB427_428.out; have hnc5 := NB428_427.out; have hcz6_0 : w4.cell? ⟨gb427, 0, none⟩ = some (.slice A0_0 l0_0.length c0_0) := (blk_cell BK427.out 0).trans rfl; have hcz6_1 : w4.cell? ⟨gb427, 1, none⟩ = some (.slice A0_1 l0_1.length c0_1) := (blk_cell BK427.out 1).trans rfl; have hcz6_2 : w4.cell? ⟨gb427, 2, none⟩ = some (.slice A0_2 l0_2.length c0_2) := (blk_cell BK427.out 2).trans rfl; have hcz6_3 : w4.cell? ⟨gb427, 3, none⟩ = some (.slice A0_3 l0_3.length c0_3) := (blk_cell BK427.out 3).trans rfl; have hcz6_4 : w4.cell? ⟨gb427, 4, none⟩ = some (.slice A0_4 l0_4.length c0_4) := (blk_cell BK427.out 4).trans rfl; have hfz6_0 := blk_frozen BK427.out 0; have hfz6_1 := blk_frozen BK427.out 1; have hfz6_2 := blk_frozen BK427.out 2; have hfz6_3 := blk_frozen BK427.out 3; have hfz6_4 := blk_frozen BK427.out 4) | ((with_reducible refine gate_callee (f := 53) rfl ?_); refine goesL_ (some 6) rfl rfl Tryz.func53 (by kernel_rfl) rfl #[.agg #[.slice A0_0 l0_0.length c0_0, .slice A0_1 l0_1.length c0_1, .slice A0_2 l0_2.length c0_2, .slice A0_3 l0_3.length c0_3, .slice A0_4 l0_4.length c0_4]] rfl (by (try simp only [List.map_toArray, List.map_cons, List.map_nil]); first | rfl) ?_; (with_reducible refine (proofmarkref30_Few.calls k _ _ l0_0 _ _ l0_1 _ _ l0_2 _ _ l0_3 _ _ l0_4 t429 t432 t435 t438 t441 _ ?side1 ?side2 ?side3 ?side4 ?side5 ?side6 ?side7 ?side8 ?side9 ?side10 A2.out).mono ?_); (case side1 => repeat (first | exact (Kd.C_below HR0_0.out HB.out))); (case side2 => exact HC0_0.out); (case side3 => repeat (first | exact (Kd.C_below HR0_1.out HB.out))); (case side4 => exact HC0_1.out); (case side5 => repeat (first | exact (Kd.C_below HR0_2.out HB.out))); (case side6 => exact HC0_2.out); (case side7 => repeat (first | exact (Kd.C_below HR0_3.out HB.out))); (case side8 => exact HC0_3.out); (case side9 => repeat (first | exact (Kd.C_below HR0_4.out HB.out))); (case side10 => exact HC0_4.out); rintro e w7 ⟨v430, v433, v436, v439, v442, rfl, ho0, ho1, ho2, ho3, ho4, hb⟩; refine ⟨_, rfl, ?_⟩; have n0_ := Aside0.mk (Kd.R_lower ho0 (below_size HB.out)); have n1_ := Aside0.mk (Kd.R_lower ho1 (below_size HB.out)); have n2_ := Aside0.mk (Kd.R_lower ho2 (below_size HB.out)); have n3_ := Aside0.mk (Kd.R_lower ho3 (below_size HB.out)); have n4_ := Aside0.mk (Kd.R_lower ho4 (below_size HB.out)); have n5_ := Aside0.mk (blk_below BK427.out hb); have n6_ := Aside0.mk (blk_below BK428.out hb); have n7_ := Aside0.mk (below_step HB.out hb); clear BK427; clear BK428; clear HB; have HO431 := n0_; have HO434 := n1_; have HO437 := n2_; have HO440 := n3_; have HO443 := n4_; have BK427 := n5_; have BK428 := n6_; have HB := n7_; clear n0_ n1_ n2_ n3_ n4_ n5_ n6_ n7_; (try clear hb); (try clear hb2); (try clear hk); (try clear hi); (try clear ho0); (try clear ho1); (try clear ho2); (try clear ho3); (try clear ho4)) | ((with_reducible refine gate_dst (N := 3) rfl ?_); refine box_event ?hg (N := 3) ?hd (cs := #[.slice none 0 0, .slice none 0 0, .slice none 0 0, .slice none 0 0, .slice none 0 0]) (t := 27) ?hr ?_; (case hd => rfl); (case hg => rfl); (case hr => first | (go_simp; done)); intro gb444 hg w8 hbox hb; have n0_ := Aside0.mk (Kd.R_below HO431.out hb); have n1_ := Aside0.mk (Kd.R_below HO434.out hb); have n2_ := Aside0.mk (Kd.R_below HO437.out hb); have n3_ := Aside0.mk (Kd.R_below HO440.out hb); have n4_ := Aside0.mk (Kd.R_below HO443.out hb); have n5_ := Aside0.mk (blk_below BK427.out hb); have n6_ := Aside0.mk (blk_below BK428.out hb); have n7_ := Aside0.mk (below_step HB.out hb); have n8_ := Aside0.mk (hbox); have n9_ := Aside0.mk ((by rw [hg]; exact (below_size HB.out) : w.heap.size ≤ gb444)); have n10_ := Aside0.mk ((by rw [hg]; exact (below_size HB.out) : w.heap.size ≤ gb444)); have n11_ := Aside0.mk ((by rw [hg]; exact Nat.ne_of_lt (blk_lt BK427.out) : gb427 ≠ gb444)); have n12_ := Aside0.mk ((by rw [hg]; exact Nat.ne_of_gt (blk_lt BK427.out) : gb444 ≠ gb427)); have n13_ := Aside0.mk ((by rw [hg]; exact Nat.ne_of_lt (blk_lt BK428.out) : gb428 ≠ gb444)); have n14_ := Aside0.mk ((by rw [hg]; exact Nat.ne_of_gt (blk_lt BK428.out) : gb444 ≠ gb428)); clear HO431; clear HO434; clear HO437; clear HO440; clear HO443; clear BK427; clear BK428; clear HB; have HO431 := n0_; have HO434 := n1_; have HO437 := n2_; have HO440 := n3_; have HO443 := n4_; have BK427 := n5_; have BK428 := n6_; have HB := n7_; have BK444 := n8_; have GW444 := n9_; have GE444 := n10_; have NB427_444 := n11_; have NB444_427 := n12_; have NB428_444 := n13_; have NB444_428 := n14_; clear n0_ n1_ n2_ n3_ n4_ n5_ n6_ n7_ n8_ n9_ n10_ n11_ n12_ n13_ n14_; clear hb hbox hg; obtain ⟨Ao9, co9, eo9⟩ := Kd.R_slice HO431.out; subst eo9; have hnb10 := NB444_427.out; have hnc10 := NB427_444.out; have hnb11 := NB444_428.out; have hnc11 := NB428_444.out; have hcz12_0 : w8.cell? ⟨gb444, 0, none⟩ = some (.slice none 0 0) := (blk_cell BK444.out 0).trans rfl; have hcz12_1 : w8.cell? ⟨gb444, 1, none⟩ = some (.slice none 0 0) := (blk_cell BK444.out 1).trans rfl; have hcz12_2 : w8.cell? ⟨gb444, 2, none⟩ = some (.slice none 0 0) := (blk_cell BK444.out 2).trans rfl; have hcz12_3 : w8.cell? ⟨gb444, 3, none⟩ = some (.slice none 0 0) := (blk_cell BK444.out 3).trans rfl; have hcz12_4 : w8.cell? ⟨gb444, 4, none⟩ = some (.slice none 0 0) := (blk_cell BK444.out 4).trans rfl; have hfz12_0 := blk_frozen BK444.out 0; have hfz12_1 := blk_frozen BK444.out 1; have hfz12_2 := blk_frozen BK444.out 2; have hfz12_3 := blk_frozen BK444.out 3; have hfz12_4 := blk_frozen BK444.out 4; obtain ⟨Ao13, co13, eo13⟩ := Kd.R_slice HO434.out; subst eo13; obtain ⟨Ao14, co14, eo14⟩ := Kd.R_slice HO437.out; subst eo14; obtain ⟨Ao15, co15, eo15⟩ := Kd.R_slice HO440.out; subst eo15; obtain ⟨Ao16, co16, eo16⟩ := Kd.R_slice HO443.out; subst eo16))
  try simp only [Act.put, List.setIfInBounds_toArray, List.set_cons_succ, List.set_cons_zero]
  go_loopg [4] k (fun kq v4 w' => ∃ (x4_1 : Int) (x445003_1 : List (S105)) (u445003 : Value), v4 = .int .i64 x4_1 ∧ Aside0 (proofmarklaw30_tidy.l0 kq x4_1 t429 t432 t435 x445003_1 t441 = some (r1, r2, r3, r4, r5)) ∧ Aside0 (kq ≤ k) ∧ Aside0 (Kd.R k125 125 w' w.heap.size (fun _ => True) (.slice Ao9 t429.length co9) t429) ∧ Aside0 (Kd.R k72 72 w' w.heap.size (fun k_ => some k_ ≠ ((.slice Ao16 t441.length co16) : Value).ownBlock) (.slice Ao13 t432.length co13) t432) ∧ Aside0 (Kd.R k114 114 w' w.heap.size (fun _ => True) (.slice Ao14 t435.length co14) t435) ∧ Aside0 (Kd.R k105 105 w' w.heap.size (fun _ => True) u445003 x445003_1) ∧ Aside0 (Kd.R k72 72 w' w.heap.size (fun k_ => some k_ ≠ ((.slice Ao13 t432.length co13) : Value).ownBlock) (.slice Ao16 t441.length co16) t441) ∧ Aside0 (w'.heap[gb427]? = some (.cells #[(.slice A0_0 l0_0.length c0_0), (.slice A0_1 l0_1.length c0_1), (.slice A0_2 l0_2.length c0_2), (.slice A0_3 l0_3.length c0_3), (.slice A0_4 l0_4.length c0_4)] 27 (0, 0))) ∧ Aside0 (w'.heap[gb428]? = some (.cells #[(.slice none 0 0), (.slice none 0 0), (.slice none 0 0), (.slice none 0 0), (.slice none 0 0)] 27 (0, 0))) ∧ Aside0 (w'.heap[gb444]? = some (.cells #[(.slice Ao9 t429.length co9), (.slice Ao13 t432.length co13), (.slice Ao14 t435.length co14), u445003, (.slice Ao16 t441.length co16)] 27 (0, 0))) ∧ Aside0 (Below w.heap.size w w'))
  case atStart => exact ⟨(0), (t438), (.slice Ao15 t438.length co15), rfl, H', ⟨Nat.le_refl _⟩, ⟨by exact Kd.R_mono (Kd.R_far (p := ⟨gb444, 4, none⟩) (Kd.R_far (p := ⟨gb444, 3, none⟩) (Kd.R_far (p := ⟨gb444, 2, none⟩) (Kd.R_far (p := ⟨gb444, 1, none⟩) (Kd.R_far (p := ⟨gb444, 0, none⟩) (Kd.R_types HO431.out BK444.out (by decide)) (fun _ hk => hk.2) (.slice Ao9 t429.length co9)) (fun _ hk => hk.2) (.slice Ao13 t432.length co13)) (fun _ hk => hk.2) (.slice Ao14 t435.length co14)) (fun _ hk => hk.2) (.slice Ao15 t438.length co15)) (fun _ hk => hk.2) (.slice Ao16 t441.length co16)) (fun _ hk => trivial)⟩, ⟨by exact Kd.R_mono (Kd.R_far (p := ⟨gb444, 4, none⟩) (Kd.R_far (p := ⟨gb444, 3, none⟩) (Kd.R_far (p := ⟨gb444, 2, none⟩) (Kd.R_far (p := ⟨gb444, 1, none⟩) (Kd.R_far (p := ⟨gb444, 0, none⟩) (Kd.R_types HO434.out BK444.out (by decide)) (fun _ hk => hk.2) (.slice Ao9 t429.length co9)) (fun _ hk => hk.2) (.slice Ao13 t432.length co13)) (fun _ hk => hk.2) (.slice Ao14 t435.length co14)) (fun _ hk => hk.2) (.slice Ao15 t438.length co15)) (fun _ hk => hk.2) (.slice Ao16 t441.length co16)) (fun _ hk => hk.1)⟩, ⟨by exact Kd.R_mono (Kd.R_far (p := ⟨gb444, 4, none⟩) (Kd.R_far (p := ⟨gb444, 3, none⟩) (Kd.R_far (p := ⟨gb444, 2, none⟩) (Kd.R_far (p := ⟨gb444, 1, none⟩) (Kd.R_far (p := ⟨gb444, 0, none⟩) (Kd.R_types HO437.out BK444.out (by decide)) (fun _ hk => hk.2) (.slice Ao9 t429.length co9)) (fun _ hk => hk.2) (.slice Ao13 t432.length co13)) (fun _ hk => hk.2) (.slice Ao14 t435.length co14)) (fun _ hk => hk.2) (.slice Ao15 t438.length co15)) (fun _ hk => hk.2) (.slice Ao16 t441.length co16)) (fun _ hk => trivial)⟩, ⟨by exact Kd.R_mono (Kd.R_far (p := ⟨gb444, 4, none⟩) (Kd.R_far (p := ⟨gb444, 3, none⟩) (Kd.R_far (p := ⟨gb444, 2, none⟩) (Kd.R_far (p := ⟨gb444, 1, none⟩) (Kd.R_far (p := ⟨gb444, 0, none⟩) (Kd.R_types HO440.out BK444.out (by decide)) (fun _ hk => hk.2) (.slice Ao9 t429.length co9)) (fun _ hk => hk.2) (.slice Ao13 t432.length co13)) (fun _ hk => hk.2) (.slice Ao14 t435.length co14)) (fun _ hk => hk.2) (.slice Ao15 t438.length co15)) (fun _ hk => hk.2) (.slice Ao16 t441.length co16)) (fun _ hk => trivial)⟩, ⟨by exact Kd.R_mono (Kd.R_far (p := ⟨gb444, 4, none⟩) (Kd.R_far (p := ⟨gb444, 3, none⟩) (Kd.R_far (p := ⟨gb444, 2, none⟩) (Kd.R_far (p := ⟨gb444, 1, none⟩) (Kd.R_far (p := ⟨gb444, 0, none⟩) (Kd.R_types HO443.out BK444.out (by decide)) (fun _ hk => hk.2) (.slice Ao9 t429.length co9)) (fun _ hk => hk.2) (.slice Ao13 t432.length co13)) (fun _ hk => hk.2) (.slice Ao14 t435.length co14)) (fun _ hk => hk.2) (.slice Ao15 t438.length co15)) (fun _ hk => hk.2) (.slice Ao16 t441.length co16)) (fun _ hk => hk.1)⟩, ⟨by refine blk_far ?_ NB427_444.out _; refine blk_far ?_ NB427_444.out _; refine blk_far ?_ NB427_444.out _; refine blk_far ?_ NB427_444.out _; refine blk_far ?_ NB427_444.out _; exact BK427.out⟩, ⟨by refine blk_far ?_ NB428_444.out _; refine blk_far ?_ NB428_444.out _; refine blk_far ?_ NB428_444.out _; refine blk_far ?_ NB428_444.out _; refine blk_far ?_ NB428_444.out _; exact BK428.out⟩, ⟨by refine blk_put (cs := #[.slice Ao9 t429.length co9, .slice Ao13 t432.length co13, .slice Ao14 t435.length co14, .slice Ao15 t438.length co15, .slice none 0 0]) ?_ 4 _ rfl; refine blk_put (cs := #[.slice Ao9 t429.length co9, .slice Ao13 t432.length co13, .slice Ao14 t435.length co14, .slice none 0 0, .slice none 0 0]) ?_ 3 _ rfl; refine blk_put (cs := #[.slice Ao9 t429.length co9, .slice Ao13 t432.length co13, .slice none 0 0, .slice none 0 0, .slice none 0 0]) ?_ 2 _ rfl; refine blk_put (cs := #[.slice Ao9 t429.length co9, .slice none 0 0, .slice none 0 0, .slice none 0 0, .slice none 0 0]) ?_ 1 _ rfl; refine blk_put (cs := #[.slice none 0 0, .slice none 0 0, .slice none 0 0, .slice none 0 0, .slice none 0 0]) ?_ 0 _ rfl; exact BK444.out⟩, ⟨by repeat (first | (with_reducible first | exact HB.out | refine below_set ?_ GE444.out))⟩⟩
  case round =>
    clear H'
    try clear c1
    try clear c2
    try clear p2
    try clear c5
    try clear c10
    try clear c11
    try clear hcz12_0
    try clear hcz12_1
    try clear hcz12_2
    try clear hcz12_3
    try clear hcz12_4
    try clear hcz6_0
    try clear hcz6_1
    try clear hcz6_2
    try clear hcz6_3
    try clear hcz6_4
    try clear hfz12_0
    try clear hfz12_1
    try clear hfz12_2
    try clear hfz12_3
    try clear hfz12_4
    try clear hfz6_0
    try clear hfz6_1
    try clear hfz6_2
    try clear hfz6_3
    try clear hfz6_4
    obtain ⟨x4_1, x445003_1, u445003, rfl, HA, HK1, HO_445000, HO_445001, HO_445002, HO_445003, HO_445004, BK427, BK428, BK444, HB⟩ := hrel
    cases gk with
    | zero => exact absurd HA.out (by simp [proofmarklaw30_tidy.l0])
    | succ k1 =>
      have H := HA.out
      clear HA
      simp only [proofmarklaw30_tidy.l0] at H
      by_cases c17 : x4_1 < (x445003_1.length : Int)
      · rw [if_pos c17] at H
        have c17b0 : decide (x4_1 < (x445003_1.length : Int)) = true := decide_eq_true c17
        clear c17
        by_cases c18 : 0 ≤ x4_1
        · rw [if_pos c18] at H
          have c18b0 : decide (0 ≤ x4_1) = true := decide_eq_true c18
          clear c18
          replace H := Option.bind_eq_some_iff.mp H
          obtain ⟨t446, A190, H⟩ := H
          replace H : (if t446 = true then (proofmarklaw30_tidy.l0 k1 (wrap64 (x4_1 + 1)) t429 t432 t435 x445003_1 t441) else (proofmarklaw30_tidy.l0 k1 (wrap64 (x4_1 + 1)) t429 t432 t435 (x445003_1.set (x4_1 : Int).toNat (⟨(rd_T105 x445003_1 x4_1).f0, (⟨#[112]⟩ : ByteArray), (rd_T105 x445003_1 x4_1).f2⟩ : S105)) t441)) = some (r1, r2, r3, r4, r5) := H
          have A19 := Aside0.mk A190
          clear A190
          by_cases c20 : t446 = true
          · subst c20
            have H1 : (proofmarklaw30_tidy.l0 k1 (wrap64 (x4_1 + 1)) t429 t432 t435 x445003_1 t441) = some (r1, r2, r3, r4, r5) := by rw [if_pos rfl] at H; exact H
            clear H
            have H := H1
            clear H1
            have H' := Aside0.mk H
            clear H
            have hnb21 := NB444_427.out
            have hnc21 := NB427_444.out
            have hnb22 := NB444_428.out
            have hnc22 := NB428_444.out
            have hcz23_0 : wr.cell? ⟨gb444, 0, none⟩ = some (.slice Ao9 t429.length co9) := (blk_cell BK444.out 0).trans rfl
            have hcz23_1 : wr.cell? ⟨gb444, 1, none⟩ = some (.slice Ao13 t432.length co13) := (blk_cell BK444.out 1).trans rfl
            have hcz23_2 : wr.cell? ⟨gb444, 2, none⟩ = some (.slice Ao14 t435.length co14) := (blk_cell BK444.out 2).trans rfl
            have hcz23_3 : wr.cell? ⟨gb444, 3, none⟩ = some (u445003) := (blk_cell BK444.out 3).trans rfl
            have hcz23_4 : wr.cell? ⟨gb444, 4, none⟩ = some (.slice Ao16 t441.length co16) := (blk_cell BK444.out 4).trans rfl
            have hfz23_0 := blk_frozen BK444.out 0
            have hfz23_1 := blk_frozen BK444.out 1
            have hfz23_2 := blk_frozen BK444.out 2
            have hfz23_3 := blk_frozen BK444.out 3
            have hfz23_4 := blk_frozen BK444.out 4
            obtain ⟨Ao24, co24, eo24⟩ := Kd.R_slice HO_445003.out
            subst eo24
            have p445 : 0 ≤ (x4_1 : Int) := of_decide_eq_true (by first | (with_reducible assumption))
            have q445 : x4_1 < (x445003_1.length : Int) := of_decide_eq_true (by first | (with_reducible assumption))
            obtain ⟨ad445, e445, hx445_0, hx445_1, hx445_2⟩ := at_T105 (Kd.R_reads' HO_445003.out).2.2 x4_1 p445 q445
            cases e445
            replace p445 := eq_true p445
            replace q445 := eq_true q445
            go_wp2_with (first | ((with_reducible refine gate_callee (f := 54) rfl ?_); refine goesL_ (some 20) rfl rfl Tryz.func54 (by kernel_rfl) rfl #[.string ((rd_T105 x445003_1 x4_1).f1)] rfl (by (try simp only [List.map_toArray, List.map_cons, List.map_nil]); first | rfl) ?_; (with_reducible refine (proofmarkref27_Plain.calls k1 ((rd_T105 x445003_1 x4_1).f1) true _ A19.out).mono ?_); rintro e w' ⟨rfl, ⟨nd, rfl⟩⟩; refine ⟨_, rfl, ?_⟩))
            go_roundg k1
            case measure => have := HK1.out; omega
            case rel => exact ⟨(wrap64 (x4_1 + 1)), (x445003_1), (.slice (some ad445) x445003_1.length co24), rfl, H', ⟨by have := HK1.out; omega⟩, ⟨by (with_reducible repeat (first | apply Kd.R_drewN)); exact HO_445000.out⟩, ⟨by (with_reducible repeat (first | apply Kd.R_drewN)); exact HO_445001.out⟩, ⟨by (with_reducible repeat (first | apply Kd.R_drewN)); exact HO_445002.out⟩, ⟨by (with_reducible repeat (first | apply Kd.R_drewN)); exact HO_445003.out⟩, ⟨by (with_reducible repeat (first | apply Kd.R_drewN)); exact HO_445004.out⟩, ⟨by (with_reducible repeat (first | refine blk_drewN ?_ _)); exact BK427.out⟩, ⟨by (with_reducible repeat (first | refine blk_drewN ?_ _)); exact BK428.out⟩, ⟨by (with_reducible repeat (first | refine blk_drewN ?_ _)); exact BK444.out⟩, ⟨by repeat (first | (with_reducible first | exact HB.out | apply pw_below_drewN))⟩⟩
          · replace c20 := Bool.eq_false_iff.mpr c20
            subst c20
            have H1 : (proofmarklaw30_tidy.l0 k1 (wrap64 (x4_1 + 1)) t429 t432 t435 (x445003_1.set (x4_1 : Int).toNat (⟨(rd_T105 x445003_1 x4_1).f0, (⟨#[112]⟩ : ByteArray), (rd_T105 x445003_1 x4_1).f2⟩ : S105)) t441) = some (r1, r2, r3, r4, r5) := by rw [if_neg (show ¬ (false = true) by decide)] at H; exact H
            clear H
            have H := H1
            clear H1
            obtain ⟨y447, hy447⟩ : ∃ y_ : List (S105), y_ = (x445003_1.set (x4_1 : Int).toNat (⟨(rd_T105 x445003_1 x4_1).f0, (⟨#[112]⟩ : ByteArray), (rd_T105 x445003_1 x4_1).f2⟩ : S105)) := ⟨_, rfl⟩
            replace H : (proofmarklaw30_tidy.l0 k1 (wrap64 (x4_1 + 1)) t429 t432 t435 y447 t441) = some (r1, r2, r3, r4, r5) := by first | (rw [hy447]; with_reducible exact H)
            have Ny447 := Aside0.mk hy447
            clear hy447
            have H' := Aside0.mk H
            clear H
            have hnb26 := NB444_427.out
            have hnc26 := NB427_444.out
            have hnb27 := NB444_428.out
            have hnc27 := NB428_444.out
            have hcz28_0 : wr.cell? ⟨gb444, 0, none⟩ = some (.slice Ao9 t429.length co9) := (blk_cell BK444.out 0).trans rfl
            have hcz28_1 : wr.cell? ⟨gb444, 1, none⟩ = some (.slice Ao13 t432.length co13) := (blk_cell BK444.out 1).trans rfl
            have hcz28_2 : wr.cell? ⟨gb444, 2, none⟩ = some (.slice Ao14 t435.length co14) := (blk_cell BK444.out 2).trans rfl
            have hcz28_3 : wr.cell? ⟨gb444, 3, none⟩ = some (u445003) := (blk_cell BK444.out 3).trans rfl
            have hcz28_4 : wr.cell? ⟨gb444, 4, none⟩ = some (.slice Ao16 t441.length co16) := (blk_cell BK444.out 4).trans rfl
            have hfz28_0 := blk_frozen BK444.out 0
            have hfz28_1 := blk_frozen BK444.out 1
            have hfz28_2 := blk_frozen BK444.out 2
            have hfz28_3 := blk_frozen BK444.out 3
            have hfz28_4 := blk_frozen BK444.out 4
            obtain ⟨Ao29, co29, eo29⟩ := Kd.R_slice HO_445003.out
            subst eo29
            have p445 : 0 ≤ (x4_1 : Int) := of_decide_eq_true (by first | (with_reducible assumption))
            have q445 : x4_1 < (x445003_1.length : Int) := of_decide_eq_true (by first | (with_reducible assumption))
            obtain ⟨ad445, e445, hx445_0, hx445_1, hx445_2⟩ := at_T105 (Kd.R_reads' HO_445003.out).2.2 x4_1 p445 q445
            cases e445
            replace p445 := eq_true p445
            replace q445 := eq_true q445
            go_wp2_with (first | ((with_reducible refine gate_callee (f := 54) rfl ?_); refine goesL_ (some 20) rfl rfl Tryz.func54 (by kernel_rfl) rfl #[.string ((rd_T105 x445003_1 x4_1).f1)] rfl (by (try simp only [List.map_toArray, List.map_cons, List.map_nil]); first | rfl) ?_; (with_reducible refine (proofmarkref27_Plain.calls k1 ((rd_T105 x445003_1 x4_1).f1) false _ A19.out).mono ?_); rintro e w' ⟨rfl, ⟨nd, rfl⟩⟩; refine ⟨_, rfl, ?_⟩; (try (rw [drewN_self wr]; generalize hq_ : World.drewN wr _ = wr; have n0_ : Aside0 (Kd.R k125 125 wr w.heap.size (fun _ => True) (.slice Ao9 t429.length co9) t429) := ⟨by rw [← hq_]; exact (by (with_reducible repeat (first | apply Kd.R_drewN)); exact HO_445000.out)⟩; have n1_ : Aside0 (Kd.R k72 72 wr w.heap.size (fun k_ => some k_ ≠ (.slice Ao16 t441.length co16 : Value).ownBlock) (.slice Ao13 t432.length co13) t432) := ⟨by rw [← hq_]; exact (by (with_reducible repeat (first | apply Kd.R_drewN)); exact HO_445001.out)⟩; have n2_ : Aside0 (Kd.R k114 114 wr w.heap.size (fun _ => True) (.slice Ao14 t435.length co14) t435) := ⟨by rw [← hq_]; exact (by (with_reducible repeat (first | apply Kd.R_drewN)); exact HO_445002.out)⟩; have n3_ : Aside0 (Kd.R k105 105 wr w.heap.size (fun _ => True) (.slice (some ad445) x445003_1.length co29) x445003_1) := ⟨by rw [← hq_]; exact (by (with_reducible repeat (first | apply Kd.R_drewN)); exact HO_445003.out)⟩; have n4_ : Aside0 (Kd.R k72 72 wr w.heap.size (fun k_ => some k_ ≠ (.slice Ao13 t432.length co13 : Value).ownBlock) (.slice Ao16 t441.length co16) t441) := ⟨by rw [← hq_]; exact (by (with_reducible repeat (first | apply Kd.R_drewN)); exact HO_445004.out)⟩; have n5_ : Aside0 (wr.heap[gb427]? = some (.cells #[.slice A0_0 l0_0.length c0_0, .slice A0_1 l0_1.length c0_1, .slice A0_2 l0_2.length c0_2, .slice A0_3 l0_3.length c0_3, .slice A0_4 l0_4.length c0_4] 27 (0, 0))) := ⟨by rw [← hq_]; exact (by (with_reducible repeat (first | refine blk_drewN ?_ _)); exact BK427.out)⟩; have n6_ : Aside0 (wr.heap[gb428]? = some (.cells #[.slice none 0 0, .slice none 0 0, .slice none 0 0, .slice none 0 0, .slice none 0 0] 27 (0, 0))) := ⟨by rw [← hq_]; exact (by (with_reducible repeat (first | refine blk_drewN ?_ _)); exact BK428.out)⟩; have n7_ : Aside0 (wr.heap[gb444]? = some (.cells #[.slice Ao9 t429.length co9, .slice Ao13 t432.length co13, .slice Ao14 t435.length co14, .slice (some ad445) x445003_1.length co29, .slice Ao16 t441.length co16] 27 (0, 0))) := ⟨by rw [← hq_]; exact (by (with_reducible repeat (first | refine blk_drewN ?_ _)); exact BK444.out)⟩; have n8_ : Aside0 (Below w.heap.size w wr) := ⟨by rw [← hq_]; exact (by repeat (first | (with_reducible first | exact HB.out | apply pw_below_drewN)))⟩; clear HO_445000 HO_445001 HO_445002 HO_445003 HO_445004 BK427 BK428 BK444 HB hq_; have HO_445000 := n0_; have HO_445001 := n1_; have HO_445002 := n2_; have HO_445003 := n3_; have HO_445004 := n4_; have BK427 := n5_; have BK428 := n6_; have BK444 := n7_; have HB := n8_; clear n0_ n1_ n2_ n3_ n4_ n5_ n6_ n7_ n8_)); have p25 : 0 ≤ (x4_1 : Int) := of_decide_eq_true (by first | (with_reducible assumption)); have q25 : (x4_1 : Int) < ((x445003_1.length : Int) : Int) := of_decide_eq_true (by first | (with_reducible assumption)); obtain ⟨go25, co25, eo25, gb25, gl25, cl25, HG25⟩ := Kd.R_form HO_445003.out (by omega); (first | cases eo25); have GB25 := Aside0.mk gb25; have GG25 := Aside0.mk HG25; clear gb25 gl25 HG25; (first | simp only [add_plain] at hx445_0); (first | simp only [add_plain] at hx445_1); (first | simp only [add_plain] at hx445_2); obtain ⟨ce25, hcl25, hM25, hcc25, hfr25⟩ := Kd.R_elem HO_445003.out z105 (x4_1 : Int) p25 q25; obtain rfl := k105_openM hM25; have hx25_0 : wr.cell? ⟨go25, (x4_1 : Int).toNat * 3, none⟩ = some (.int .i64 ((rd_T105 x445003_1 x4_1).f0)) := hcc25 0 _ rfl; have hx25_1 : wr.cell? ⟨go25, (x4_1 : Int).toNat * 3 + 1, none⟩ = some (.string ((rd_T105 x445003_1 x4_1).f1)) := hcc25 1 _ rfl; have hx25_2 : wr.cell? ⟨go25, (x4_1 : Int).toNat * 3 + 2, none⟩ = some (.int .i64 ((rd_T105 x445003_1 x4_1).f2)) := hcc25 2 _ rfl; have hf25_0 : wr.frozen? ⟨go25, (x4_1 : Int).toNat * 3, none⟩ = false := hfr25 0; have hf25_1 : wr.frozen? ⟨go25, (x4_1 : Int).toNat * 3 + 1, none⟩ = false := hfr25 1; have hf25_2 : wr.frozen? ⟨go25, (x4_1 : Int).toNat * 3 + 2, none⟩ = false := hfr25 2; clear hcl25 hcc25 hfr25 hM25; replace p25 := eq_true p25; replace q25 := eq_true q25; have HX30 := Aside0.mk (show Kd.R k105 105 wr w.heap.size (fun _ => True) (.slice (some ⟨go25, 0, none⟩) x445003_1.length co29) x445003_1 from HO_445003.out); obtain ⟨ce30, hcl30, hM30, hcc30, hfr30⟩ := Kd.R_elem HX30.out z105 (x4_1 : Int) (of_decide_eq_true (by first | (with_reducible assumption))) (by have h_ : (x4_1 : Int) < ((x445003_1.length : Int) : Int) := of_decide_eq_true (by first | (with_reducible assumption)); first | exact h_); obtain rfl := k105_openM hM30; have HP30 := Kd.R_seg HX30.out (x4_1 : Int) (of_decide_eq_true (by first | (with_reducible assumption))) (by have h_ : (x4_1 : Int) < ((x445003_1.length : Int) : Int) := of_decide_eq_true (by first | (with_reducible assumption)); first | exact h_) (seg := [.string (⟨#[112]⟩ : ByteArray)]) (j := 1) hcl30 hcc30 (show 2 ≤ 3 from by decide) (x' := (⟨(rd_T105 x445003_1 x4_1).f0, (⟨#[112]⟩ : ByteArray), (rd_T105 x445003_1 x4_1).f2⟩ : S105)) (k105_mkM _ _ _ (⟨(rd_T105 x445003_1 x4_1).f0, (⟨#[112]⟩ : ByteArray), (rd_T105 x445003_1 x4_1).f2⟩ : S105) ) (fun _ hk => hk); have hx30_1 := hcc30 1 _ rfl; (try simp only [show (k105).sz = 3 from rfl, Nat.mul_one, Nat.add_zero] at hx30_1); have hf30_1 := hfr30 1; (try simp only [show (k105).sz = 3 from rfl, Nat.mul_one, Nat.add_zero] at hf30_1); clear hcl30 hcc30 hfr30 hM30; have hczM_3 : wr.cell? ⟨gb444, 3, none⟩ = some (.slice (some ⟨go25, 0, none⟩) x445003_1.length co29) := (blk_cell BK444.out 3).trans rfl) | ((with_reducible refine gate_store (t := 9) (p := 26) rfl ?_); refine store_event (t := 9) (p := 26) (v := ?vo_w31) (w1 := (wr.setCell ⟨go25, (x4_1 : Int).toNat * 3 + 1, none⟩ (.string (⟨#[112]⟩ : ByteArray)))) ?hg ?ho ?hn ?hr ?_; (case ho => rfl); (case hg => rfl); (case hn => rfl); (case hr => first | (go_simp; done)); intro w31 hw; have hg : wr.grownBy w31 (some go25) := (by rw [hw]; exact HP30.2); have hp_ : Kd.R k105 105 w31 w.heap.size (fun _ => True) (.slice (some ⟨go25, 0, none⟩) x445003_1.length co29) y447 := (by rw [hw, Ny447.out]; exact HP30.1); clear HP30; have n0_ := Aside0.mk (Kd.R_over' (v := (.slice (some ⟨go25, 0, none⟩) x445003_1.length co29)) HO_445000.out (Kd.R_typed HO_445003.out) (by decide) hg); have n1_ := Aside0.mk (Kd.R_over' (v := (.slice (some ⟨go25, 0, none⟩) x445003_1.length co29)) HO_445001.out (Kd.R_typed HO_445003.out) (by decide) hg); have n2_ := Aside0.mk (Kd.R_over' (v := (.slice (some ⟨go25, 0, none⟩) x445003_1.length co29)) HO_445002.out (Kd.R_typed HO_445003.out) (by decide) hg); have n3_ := Aside0.mk (hp_); have n4_ := Aside0.mk (Kd.R_over' (v := (.slice (some ⟨go25, 0, none⟩) x445003_1.length co29)) HO_445004.out (Kd.R_typed HO_445003.out) (by decide) hg); have n5_ := Aside0.mk (blk_grown (g := gb427) (o := .cells #[.slice A0_0 l0_0.length c0_0, .slice A0_1 l0_1.length c0_1, .slice A0_2 l0_2.length c0_2, .slice A0_3 l0_3.length c0_3, .slice A0_4 l0_4.length c0_4] 27 (0, 0)) BK427.out hg (Kd.R_ne HO_445003.out BK427.out (by decide))); have n6_ := Aside0.mk (blk_grown (g := gb428) (o := .cells #[.slice none 0 0, .slice none 0 0, .slice none 0 0, .slice none 0 0, .slice none 0 0] 27 (0, 0)) BK428.out hg (Kd.R_ne HO_445003.out BK428.out (by decide))); have n7_ := Aside0.mk (blk_grown (g := gb444) (o := .cells #[.slice Ao9 t429.length co9, .slice Ao13 t432.length co13, .slice Ao14 t435.length co14, .slice (some ⟨go25, 0, none⟩) x445003_1.length co29, .slice Ao16 t441.length co16] 27 (0, 0)) BK444.out hg (Kd.R_ne HO_445003.out BK444.out (by decide))); have n8_ := Aside0.mk ((by rw [hw]; exact below_set (HB.out) GB25.out : Below w.heap.size w w31)); clear HO_445000; clear HO_445001; clear HO_445002; clear HO_445003; clear HO_445004; clear BK427; clear BK428; clear BK444; clear HB; have HO_445000 := n0_; have HO_445001 := n1_; have HO_445002 := n2_; have HO_445003 := n3_; have HO_445004 := n4_; have BK427 := n5_; have BK428 := n6_; have BK444 := n7_; have HB := n8_; clear n0_ n1_ n2_ n3_ n4_ n5_ n6_ n7_ n8_; clear hg hw hp_))
            go_roundg k1
            case measure => have := HK1.out; omega
            case rel => exact ⟨(wrap64 (x4_1 + 1)), (y447), (.slice (some ⟨go25, 0, none⟩) x445003_1.length co29), rfl, H', ⟨by have := HK1.out; omega⟩, ⟨by exact HO_445000.out⟩, ⟨by exact HO_445001.out⟩, ⟨by exact HO_445002.out⟩, ⟨by exact HO_445003.out⟩, ⟨by exact HO_445004.out⟩, ⟨by exact BK427.out⟩, ⟨by exact BK428.out⟩, ⟨by exact BK444.out⟩, ⟨by exact HB.out⟩⟩
        · rw [if_neg c18] at H
          exact absurd H (by simp)
      · rw [if_neg c17] at H
        have c17b0 : decide (x4_1 < (x445003_1.length : Int)) = false := decide_eq_false c17
        clear c17
        simp only [Option.some.injEq, Prod.mk.injEq] at H
        obtain ⟨rfl, rfl, rfl, rfl, rfl⟩ := H
        have hnb32 := NB444_427.out
        have hnc32 := NB427_444.out
        have hnb33 := NB444_428.out
        have hnc33 := NB428_444.out
        have hcz34_0 : wr.cell? ⟨gb444, 0, none⟩ = some (.slice Ao9 t429.length co9) := (blk_cell BK444.out 0).trans rfl
        have hcz34_1 : wr.cell? ⟨gb444, 1, none⟩ = some (.slice Ao13 t432.length co13) := (blk_cell BK444.out 1).trans rfl
        have hcz34_2 : wr.cell? ⟨gb444, 2, none⟩ = some (.slice Ao14 t435.length co14) := (blk_cell BK444.out 2).trans rfl
        have hcz34_3 : wr.cell? ⟨gb444, 3, none⟩ = some (u445003) := (blk_cell BK444.out 3).trans rfl
        have hcz34_4 : wr.cell? ⟨gb444, 4, none⟩ = some (.slice Ao16 t441.length co16) := (blk_cell BK444.out 4).trans rfl
        have hfz34_0 := blk_frozen BK444.out 0
        have hfz34_1 := blk_frozen BK444.out 1
        have hfz34_2 := blk_frozen BK444.out 2
        have hfz34_3 := blk_frozen BK444.out 3
        have hfz34_4 := blk_frozen BK444.out 4
        obtain ⟨Ao35, co35, eo35⟩ := Kd.R_slice HO_445003.out
        subst eo35
        have hnb36 := NB428_427.out
        have hnc36 := NB427_428.out
        have hcz37_0 : wr.cell? ⟨gb428, 0, none⟩ = some (.slice none 0 0) := (blk_cell BK428.out 0).trans rfl
        have hcz37_1 : wr.cell? ⟨gb428, 1, none⟩ = some (.slice none 0 0) := (blk_cell BK428.out 1).trans rfl
        have hcz37_2 : wr.cell? ⟨gb428, 2, none⟩ = some (.slice none 0 0) := (blk_cell BK428.out 2).trans rfl
        have hcz37_3 : wr.cell? ⟨gb428, 3, none⟩ = some (.slice none 0 0) := (blk_cell BK428.out 3).trans rfl
        have hcz37_4 : wr.cell? ⟨gb428, 4, none⟩ = some (.slice none 0 0) := (blk_cell BK428.out 4).trans rfl
        have hfz37_0 := blk_frozen BK428.out 0
        have hfz37_1 := blk_frozen BK428.out 1
        have hfz37_2 := blk_frozen BK428.out 2
        have hfz37_3 := blk_frozen BK428.out 3
        have hfz37_4 := blk_frozen BK428.out 4
        go_wp2
        refine bodyPost_ret (results_cell_row rfl _ _ gb428 27 #[.slice Ao9 t429.length co9, .slice Ao13 t432.length co13, .slice Ao14 t435.length co14, .slice Ao35 x445003_1.length co35, .slice Ao16 t441.length co16] (0, 0) _ rfl (by refine blk_put (cs := #[.slice Ao9 t429.length co9, .slice Ao13 t432.length co13, .slice Ao14 t435.length co14, .slice Ao35 x445003_1.length co35, .slice none 0 0]) ?_ 4 _ rfl; refine blk_put (cs := #[.slice Ao9 t429.length co9, .slice Ao13 t432.length co13, .slice Ao14 t435.length co14, .slice none 0 0, .slice none 0 0]) ?_ 3 _ rfl; refine blk_put (cs := #[.slice Ao9 t429.length co9, .slice Ao13 t432.length co13, .slice none 0 0, .slice none 0 0, .slice none 0 0]) ?_ 2 _ rfl; refine blk_put (cs := #[.slice Ao9 t429.length co9, .slice none 0 0, .slice none 0 0, .slice none 0 0, .slice none 0 0]) ?_ 1 _ rfl; refine blk_put (cs := #[.slice none 0 0, .slice none 0 0, .slice none 0 0, .slice none 0 0, .slice none 0 0]) ?_ 0 _ rfl; exact BK428.out) Tryz.underlying27 rfl (by kernel_rfl)) rfl ?_
        exact ⟨_, _, _, _, _, by first | rfl, by exact Kd.R_mono (Kd.R_far (p := ⟨gb428, 4, none⟩) (Kd.R_far (p := ⟨gb428, 3, none⟩) (Kd.R_far (p := ⟨gb428, 2, none⟩) (Kd.R_far (p := ⟨gb428, 1, none⟩) (Kd.R_far (p := ⟨gb428, 0, none⟩) (Kd.R_types HO_445000.out BK428.out (by decide)) (fun _ hk => hk.2) (.slice Ao9 t429.length co9)) (fun _ hk => hk.2) (.slice Ao13 t432.length co13)) (fun _ hk => hk.2) (.slice Ao14 t435.length co14)) (fun _ hk => hk.2) (.slice Ao35 x445003_1.length co35)) (fun _ hk => hk.2) (.slice Ao16 t441.length co16)) (fun _ hk => trivial), by exact Kd.R_mono (Kd.R_far (p := ⟨gb428, 4, none⟩) (Kd.R_far (p := ⟨gb428, 3, none⟩) (Kd.R_far (p := ⟨gb428, 2, none⟩) (Kd.R_far (p := ⟨gb428, 1, none⟩) (Kd.R_far (p := ⟨gb428, 0, none⟩) (Kd.R_types HO_445001.out BK428.out (by decide)) (fun _ hk => hk.2) (.slice Ao9 t429.length co9)) (fun _ hk => hk.2) (.slice Ao13 t432.length co13)) (fun _ hk => hk.2) (.slice Ao14 t435.length co14)) (fun _ hk => hk.2) (.slice Ao35 x445003_1.length co35)) (fun _ hk => hk.2) (.slice Ao16 t441.length co16)) (fun _ hk => hk.1), by exact Kd.R_mono (Kd.R_far (p := ⟨gb428, 4, none⟩) (Kd.R_far (p := ⟨gb428, 3, none⟩) (Kd.R_far (p := ⟨gb428, 2, none⟩) (Kd.R_far (p := ⟨gb428, 1, none⟩) (Kd.R_far (p := ⟨gb428, 0, none⟩) (Kd.R_types HO_445002.out BK428.out (by decide)) (fun _ hk => hk.2) (.slice Ao9 t429.length co9)) (fun _ hk => hk.2) (.slice Ao13 t432.length co13)) (fun _ hk => hk.2) (.slice Ao14 t435.length co14)) (fun _ hk => hk.2) (.slice Ao35 x445003_1.length co35)) (fun _ hk => hk.2) (.slice Ao16 t441.length co16)) (fun _ hk => trivial), by exact Kd.R_mono (Kd.R_far (p := ⟨gb428, 4, none⟩) (Kd.R_far (p := ⟨gb428, 3, none⟩) (Kd.R_far (p := ⟨gb428, 2, none⟩) (Kd.R_far (p := ⟨gb428, 1, none⟩) (Kd.R_far (p := ⟨gb428, 0, none⟩) (Kd.R_types HO_445003.out BK428.out (by decide)) (fun _ hk => hk.2) (.slice Ao9 t429.length co9)) (fun _ hk => hk.2) (.slice Ao13 t432.length co13)) (fun _ hk => hk.2) (.slice Ao14 t435.length co14)) (fun _ hk => hk.2) (.slice Ao35 x445003_1.length co35)) (fun _ hk => hk.2) (.slice Ao16 t441.length co16)) (fun _ hk => trivial), by exact Kd.R_mono (Kd.R_far (p := ⟨gb428, 4, none⟩) (Kd.R_far (p := ⟨gb428, 3, none⟩) (Kd.R_far (p := ⟨gb428, 2, none⟩) (Kd.R_far (p := ⟨gb428, 1, none⟩) (Kd.R_far (p := ⟨gb428, 0, none⟩) (Kd.R_types HO_445004.out BK428.out (by decide)) (fun _ hk => hk.2) (.slice Ao9 t429.length co9)) (fun _ hk => hk.2) (.slice Ao13 t432.length co13)) (fun _ hk => hk.2) (.slice Ao14 t435.length co14)) (fun _ hk => hk.2) (.slice Ao35 x445003_1.length co35)) (fun _ hk => hk.2) (.slice Ao16 t441.length co16)) (fun _ hk => hk.1), by repeat (first | (with_reducible first | exact HB.out | refine below_set ?_ GE428.out))⟩

/-! ### proofmarkref30_Fit: function 21 -/
def proofmarkref30_Fit.f (k : Nat) (a0_0 : Int) (a0_1 : Int) (l0_2 : List (List Int)) (l0_3 : List (List Int)) : Option (Int × Int × (List (List Int)) × (List (List Int))) := (proofmarkref27_Rows.f k l0_2).bind fun t450 => ((proofmarkref27_Rows.f k l0_3).bind fun t453 => (some (a0_0, a0_1, t450, t453)))
theorem proofmarkref30_Fit.mono : ∀ a0 a1 a2 a3 k, LeO (proofmarkref30_Fit.f k a0 a1 a2 a3) (proofmarkref30_Fit.f (k + 1) a0 a1 a2 a3) := by
  intro a0 a1 a2 a3 k
  unfold proofmarkref30_Fit.f
  repeat' first
      | (with_reducible exact proofmarkref27_Rows.mono _ _)
      | (with_reducible exact LeO.refl _)
      | (with_reducible exact LeO.none _)
      | (with_reducible refine LeO.ite ?_ ?_)
      | (with_reducible refine LeO.bind ?_ (fun _ => ?_))
      | exact proofmarkref27_Rows.mono _ _
      | exact LeO.none _
      | refine LeO.ite ?_ ?_
      | refine LeO.bind ?_ (fun _ => ?_)
def proofmarkref30_Fit.T1 : Bool × List (List Nat × List Nat) := (true, [([], []), ([0], [0]), ([], []), ([2], [2]), ([], []), ([4], [4]), ([5], [5]), ([], []), ([7], [7]), ([8, 6], [8]), ([1, 3, 6, 9], [1, 3, 6, 9]), ([10, 9, 0, 1, 2, 3, 4, 5, 6, 7, 8, 9, 10], [10])])
def proofmarkref30_Fit.B1 : List Nat := [0, 1, 0, 4, 0, 16, 48, 0, 128, 496, 1023, 2047]
theorem proofmarkref30_Fit.tab1 : rtab .any (opsOf Tryz.f21 1) = proofmarkref30_Fit.T1 := by kernel_rfl
theorem proofmarkref30_Fit.bits1 : waitsOk proofmarkref30_Fit.T1.2 proofmarkref30_Fit.B1 = true := by kernel_rfl
set_option maxHeartbeats 8000000 in
set_option maxRecDepth 100000 in
theorem proofmarkref30_Fit.calls (k : Nat) (a0_0 : Int) (a0_1 : Int) (A0_2 : Option Addr) (c0_2 : Nat) (l0_2 : List (List Int)) (A0_3 : Option Addr) (c0_3 : Nat) (l0_3 : List (List Int)) (r1 : Int) (r2 : Int) (r3 : List (List Int)) (r4 : List (List Int)) (w : World) (hr0_2 : Kd.C (Kd.slice 3 (Kd.int .i64)) w A0_2 l0_2.length l0_2) (hc0_2 : l0_2.length ≤ c0_2) (hr0_3 : Kd.C (Kd.slice 3 (Kd.int .i64)) w A0_3 l0_3.length l0_3) (hc0_3 : l0_3.length ≤ c0_3) (h : proofmarkref30_Fit.f k a0_0 a0_1 l0_2 l0_3 = some (r1, r2, r3, r4)) :
    Calls Tryz.prog 21 #[.agg #[.int .i64 a0_0, .int .i64 a0_1, .slice A0_2 l0_2.length c0_2, .slice A0_3 l0_3.length c0_3]] w fun e w' => ∃ v2_ v3_ : Value, e = .returned (.agg #[.int .i64 r1, .int .i64 r2, v2_, v3_]) ∧ Kd.S (Kd.slice 3 (Kd.int .i64)) 37 w' w.heap.size (fun k_ => some k_ ≠ (v3_ : Value).ownBlock) v2_ r3 ∧ Kd.S (Kd.slice 3 (Kd.int .i64)) 37 w' w.heap.size (fun k_ => some k_ ≠ (v2_ : Value).ownBlock) v3_ r4 ∧ Below w.heap.size w w' := by
  have hu54 := Tryz.underlying54
  have HR0_2 := Aside0.mk hr0_2
  have HC0_2 := Aside0.mk hc0_2
  clear hr0_2 hc0_2
  have HR0_3 := Aside0.mk hr0_3
  have HC0_3 := Aside0.mk hc0_3
  clear hr0_3 hc0_3
  have HB := Aside0.mk (Below.refl w.heap.size w)
  have H : ((proofmarkref27_Rows.f k l0_2).bind fun t450 => ((proofmarkref27_Rows.f k l0_3).bind fun t453 => (some (a0_0, a0_1, t450, t453)))) = some (r1, r2, r3, r4) := h
  clear h
  replace H := Option.bind_eq_some_iff.mp H
  obtain ⟨t450, A20, H⟩ := H
  replace H : ((proofmarkref27_Rows.f k l0_3).bind fun t453 => (some (a0_0, a0_1, t450, t453))) = some (r1, r2, r3, r4) := H
  have A2 := Aside0.mk A20
  clear A20
  replace H := Option.bind_eq_some_iff.mp H
  obtain ⟨t453, A30, H⟩ := H
  replace H : (some (a0_0, a0_1, t450, t453)) = some (r1, r2, r3, r4) := H
  have A3 := Aside0.mk A30
  clear A30
  simp only [Option.some.injEq, Prod.mk.injEq] at H
  obtain ⟨rfl, rfl, rfl, rfl⟩ := H
  go_enter Tryz.func21, Tryz.ntmps21
  try go_wp2_with (first | ((with_reducible refine gate_dst (N := 1) rfl ?_); refine box_event ?hg (N := 1) ?hd (cs := #[.int .i64 a0_0, .int .i64 a0_1, .slice A0_2 l0_2.length c0_2, .slice A0_3 l0_3.length c0_3]) (t := 54) ?hr ?_; (case hd => rfl); (case hg => rfl); (case hr => first | (go_simp; done)); intro gb448 hg w4 hbox hb; have n0_ := Aside0.mk (below_step HB.out hb); have n1_ := Aside0.mk (hbox); have n2_ := Aside0.mk ((by rw [hg]; exact (below_size HB.out) : w.heap.size ≤ gb448)); have n3_ := Aside0.mk ((by rw [hg]; exact (below_size HB.out) : w.heap.size ≤ gb448)); clear HB; have HB := n0_; have BK448 := n1_; have GW448 := n2_; have GE448 := n3_; clear n0_ n1_ n2_ n3_; clear hb hbox hg) | ((with_reducible refine gate_dst (N := 2) rfl ?_); refine box_event ?hg (N := 2) ?hd (cs := #[.int .i64 0, .int .i64 0, .slice none 0 0, .slice none 0 0]) (t := 54) ?hr ?_; (case hd => rfl); (case hg => rfl); (case hr => first | (go_simp; done)); intro gb449 hg w5 hbox hb; have n0_ := Aside0.mk (blk_below BK448.out hb); have n1_ := Aside0.mk (below_step HB.out hb); have n2_ := Aside0.mk (hbox); have n3_ := Aside0.mk ((by rw [hg]; exact (below_size HB.out) : w.heap.size ≤ gb449)); have n4_ := Aside0.mk ((by rw [hg]; exact (below_size HB.out) : w.heap.size ≤ gb449)); have n5_ := Aside0.mk ((by rw [hg]; exact Nat.ne_of_lt (blk_lt BK448.out) : gb448 ≠ gb449)); have n6_ := Aside0.mk ((by rw [hg]; exact Nat.ne_of_gt (blk_lt BK448.out) : gb449 ≠ gb448)); clear BK448; clear HB; have BK448 := n0_; have HB := n1_; have BK449 := n2_; have GW449 := n3_; have GE449 := n4_; have NB448_449 := n5_; have NB449_448 := n6_; clear n0_ n1_ n2_ n3_ n4_ n5_ n6_; clear hb hbox hg))
  have n0_ := Aside0.mk (blk_drew BK448.out)
  have n1_ := Aside0.mk (blk_drew BK449.out)
  have n2_ := Aside0.mk (below_drew1 HB.out)
  clear BK448
  clear BK449
  clear HB
  have BK448 := n0_
  have BK449 := n1_
  have HB := n2_
  clear n0_ n1_ n2_
  refine start_ (n := 12) (S := fun w' => w'.cell? ⟨gb448, 0, none⟩ = some (.int .i64 a0_0) ∧ w'.cell? ⟨gb448, 1, none⟩ = some (.int .i64 a0_1) ∧ w'.cell? ⟨gb448, 2, none⟩ = some (.slice A0_2 l0_2.length c0_2) ∧ w'.cell? ⟨gb448, 3, none⟩ = some (.slice A0_3 l0_3.length c0_3)) (ds := []) #[false, false, false, false, false, false, false, false, false, false, false, false] (by kernel_rfl) rfl rfl ⟨(blk_cell BK448.out 0).trans rfl, (blk_cell BK448.out 1).trans rfl, (blk_cell BK448.out 2).trans rfl, (blk_cell BK448.out 3).trans rfl⟩ (fun hHeld => ?_); refine with_tabW proofmarkref30_Fit.tab1 proofmarkref30_Fit.bits1 (fun HT_ HW_ => ?_)
  generalize w5.drew = w6 at BK448 BK449 HB hHeld ⊢
  refine pure_ (i := 0) (N := some 3) (v := ?_) (a' := ?_) #[true, false, false, false, false, false, false, false, false, false, false, false] rfl rfl (any_of HT_.out (by kernel_rfl)) (fun _ _ _ h => h) (Or.inl ⟨by rfl, ?_⟩) ?_ ?_
  rotate_left
  · intro w'
    go_simp
    with_reducible rfl
  rotate_left
  · simp only [Act.put, List.setIfInBounds_toArray, List.set_cons_zero, List.set_cons_succ, i64_w, i32_w]
    rfl
  refine pure_ (i := 2) (N := some 5) (v := ?_) (a' := ?_) #[true, false, true, false, false, false, false, false, false, false, false, false] rfl rfl (any_of HT_.out (by kernel_rfl)) (fun _ _ _ h => h) (Or.inl ⟨by rfl, ?_⟩) ?_ ?_
  rotate_left
  · intro w'
    go_simp
    with_reducible rfl
  rotate_left
  · simp only [Act.put, List.setIfInBounds_toArray, List.set_cons_zero, List.set_cons_succ, i64_w, i32_w]
    rfl
  refine pure_ (i := 4) (N := some 7) (v := ?_) (a' := ?_) #[true, false, true, false, true, false, false, false, false, false, false, false] rfl rfl (any_of HT_.out (by kernel_rfl)) (fun _ _ _ h => h) (Or.inl ⟨by rfl, ?_⟩) ?_ ?_
  rotate_left
  · intro w'
    go_simp
    with_reducible rfl
  rotate_left
  · simp only [Act.put, List.setIfInBounds_toArray, List.set_cons_zero, List.set_cons_succ, i64_w, i32_w]
    rfl
  refine pure_ (i := 7) (N := some 10) (v := ?_) (a' := ?_) #[true, false, true, false, true, false, false, true, false, false, false, false] rfl rfl (any_of HT_.out (by kernel_rfl)) (fun _ _ _ h => h) (Or.inl ⟨by rfl, ?_⟩) ?_ ?_
  rotate_left
  · intro w'
    go_simp
    with_reducible rfl
  rotate_left
  · simp only [Act.put, List.setIfInBounds_toArray, List.set_cons_zero, List.set_cons_succ, i64_w, i32_w]
    rfl
  refine take_ (i := 1) (N := some 4) (v := ?_) (a' := ?_) #[true, true, true, false, true, false, false, true, false, false, false, false] rfl rfl (take_ofW HT_.out HW_.out (by kernel_rfl)) (fun _ _ _ h => h) (Or.inl ⟨by rfl, ?_⟩) hHeld ?_ ?_
  rotate_left
  · rintro w' ⟨s0, s1, s2, s3⟩
    go_simp
    with_reducible rfl
  rotate_left
  · simp only [Act.put, List.setIfInBounds_toArray, List.set_cons_zero, List.set_cons_succ, i64_w, i32_w]
    rfl
  refine take_ (i := 3) (N := some 6) (v := ?_) (a' := ?_) #[true, true, true, true, true, false, false, true, false, false, false, false] rfl rfl (take_ofW HT_.out HW_.out (by kernel_rfl)) (fun _ _ _ h => h) (Or.inl ⟨by rfl, ?_⟩) hHeld ?_ ?_
  rotate_left
  · rintro w' ⟨s0, s1, s2, s3⟩
    go_simp
    with_reducible rfl
  rotate_left
  · simp only [Act.put, List.setIfInBounds_toArray, List.set_cons_zero, List.set_cons_succ, i64_w, i32_w]
    rfl
  refine take_ (i := 5) (N := some 8) (v := ?_) (a' := ?_) #[true, true, true, true, true, true, false, true, false, false, false, false] rfl rfl (take_ofW HT_.out HW_.out (by kernel_rfl)) (fun _ _ _ h => h) (Or.inl ⟨by rfl, ?_⟩) hHeld ?_ ?_
  rotate_left
  · rintro w' ⟨s0, s1, s2, s3⟩
    go_simp
    with_reducible rfl
  rotate_left
  · simp only [Act.put, List.setIfInBounds_toArray, List.set_cons_zero, List.set_cons_succ, i64_w, i32_w]
    rfl
  refine take_ (i := 8) (N := some 11) (v := ?_) (a' := ?_) #[true, true, true, true, true, true, false, true, true, false, false, false] rfl rfl (take_ofW HT_.out HW_.out (by kernel_rfl)) (fun _ _ _ h => h) (Or.inl ⟨by rfl, ?_⟩) hHeld ?_ ?_
  rotate_left
  · rintro w' ⟨s0, s1, s2, s3⟩
    go_simp
    with_reducible rfl
  rotate_left
  · simp only [Act.put, List.setIfInBounds_toArray, List.set_cons_zero, List.set_cons_succ, i64_w, i32_w]
    rfl
  refine one_ (i := 6) (N := some 9) #[true, true, true, true, true, true, true, true, true, false, false, false] rfl rfl (one_of HT_.out (by kernel_rfl)) (by decide) (fun K hK => ?_)
  refine goes_ Tryz.func8 (by kernel_rfl) rfl #[.slice A0_2 l0_2.length c0_2] (by rfl) rfl rfl (by (try simp only [List.map_toArray, List.map_cons, List.map_nil]); first | rfl) ?_
  with_reducible refine (proofmarkref27_Rows.calls k _ _ l0_2 t450 _ ?side1 ?side2 A2.out).mono ?_
  (case side1 => repeat (first | exact (Kd.C_below HR0_2.out HB.out)))
  (case side2 => exact HC0_2.out)
  rintro e w7 ⟨v451, rfl, ho0, hb⟩
  refine ⟨_, rfl, ?_⟩
  have n0_ := Aside0.mk (Kd.S_lower ho0 (below_size HB.out))
  have n1_ := Aside0.mk (blk_below BK448.out hb)
  have n2_ := Aside0.mk (blk_below BK449.out hb)
  have n3_ := Aside0.mk (below_step HB.out hb)
  clear BK448
  clear BK449
  clear HB
  have HO452 := n0_
  have BK448 := n1_
  have BK449 := n2_
  have HB := n3_
  clear n0_ n1_ n2_ n3_
  (try clear hb)
  (try clear hb2)
  (try clear hk)
  (try clear hi)
  (try clear ho0)
  refine hK.out _ _ ⟨(blk_cell BK448.out 0).trans rfl, (blk_cell BK448.out 1).trans rfl, (blk_cell BK448.out 2).trans rfl, (blk_cell BK448.out 3).trans rfl⟩ (fun hHeld => ?_)
  clear hK K
  refine norm_ (a' := ?_) ?_ ?_
  rotate_left
  · show Act.put _ (some 9) _ = _
    simp only [Act.put, List.setIfInBounds_toArray, List.set_cons_zero, List.set_cons_succ, i64_w, i32_w]
    rfl
  refine one_ (i := 9) (N := some 12) #[true, true, true, true, true, true, true, true, true, true, false, false] rfl rfl (one_of HT_.out (by kernel_rfl)) (by decide) (fun K hK => ?_)
  refine goes_ Tryz.func8 (by kernel_rfl) rfl #[.slice A0_3 l0_3.length c0_3] (by rfl) rfl rfl (by (try simp only [List.map_toArray, List.map_cons, List.map_nil]); first | rfl) ?_
  with_reducible refine (proofmarkref27_Rows.calls k _ _ l0_3 t453 _ ?side1 ?side2 A3.out).mono ?_
  (case side1 => repeat (first | exact (Kd.C_below HR0_3.out HB.out)))
  (case side2 => exact HC0_3.out)
  rintro e w8 ⟨v454, rfl, ho0, hb⟩
  refine ⟨_, rfl, ?_⟩
  have n0_ := Aside0.mk (Kd.S_elder' HO452.out (Kd.S_base ho0) hb)
  have n1_ := Aside0.mk (Kd.S_lower (Kd.S_new' ho0 (Kd.S_lt HO452.out)) (below_size HB.out))
  have n2_ := Aside0.mk (blk_below BK448.out hb)
  have n3_ := Aside0.mk (blk_below BK449.out hb)
  have n4_ := Aside0.mk (below_step HB.out hb)
  clear HO452
  clear BK448
  clear BK449
  clear HB
  have HO452 := n0_
  have HO455 := n1_
  have BK448 := n2_
  have BK449 := n3_
  have HB := n4_
  clear n0_ n1_ n2_ n3_ n4_
  (try clear hb)
  (try clear hb2)
  (try clear hk)
  (try clear hi)
  (try clear ho0)
  obtain ⟨Ao9, co9, eo9⟩ := Kd.S_slice HO455.out
  (first | subst eo9)
  obtain ⟨Ao10, co10, eo10⟩ := Kd.S_slice HO452.out
  (first | subst eo10)
  refine hK.out _ _ ⟨(blk_cell BK448.out 0).trans rfl, (blk_cell BK448.out 1).trans rfl, (blk_cell BK448.out 2).trans rfl, (blk_cell BK448.out 3).trans rfl⟩ (fun hHeld => ?_)
  clear hK K
  refine norm_ (a' := ?_) ?_ ?_
  rotate_left
  · show Act.put _ (some 12) _ = _
    simp only [Act.put, List.setIfInBounds_toArray, List.set_cons_zero, List.set_cons_succ, i64_w, i32_w]
    rfl
  refine pure_ (i := 10) (N := some 13) (v := ?_) (a' := ?_) #[true, true, true, true, true, true, true, true, true, true, true, false] rfl rfl (any_of HT_.out (by kernel_rfl)) (fun _ _ _ h => h) (Or.inl ⟨by rfl, ?_⟩) ?_ ?_
  rotate_left
  · intro w'
    go_simp
    with_reducible rfl
  rotate_left
  · simp only [Act.put, List.setIfInBounds_toArray, List.set_cons_zero, List.set_cons_succ, i64_w, i32_w]
    rfl
  refine one_ (i := 11) (N := none) #[true, true, true, true, true, true, true, true, true, true, true, true] rfl rfl (one_of HT_.out (by kernel_rfl)) (by decide) (fun K hK => ?_)
  have hs11 : w8.cell? ⟨gb449, 0, none⟩ = some (.int .i64 0) := (blk_cell BK449.out 0).trans rfl
  have hfs11 := blk_frozen BK449.out 0
  have hns11_0 := NB448_449.out
  have hms11_0 := NB449_448.out
  have hs12 : w8.cell? ⟨gb449, 1, none⟩ = some (.int .i64 0) := (blk_cell BK449.out 1).trans rfl
  have hfs12 := blk_frozen BK449.out 1
  have hns12_0 := NB448_449.out
  have hms12_0 := NB449_448.out
  have hs13 : w8.cell? ⟨gb449, 2, none⟩ = some (.slice none 0 0) := (blk_cell BK449.out 2).trans rfl
  have hfs13 := blk_frozen BK449.out 2
  have hns13_0 := NB448_449.out
  have hms13_0 := NB449_448.out
  have hs14 : w8.cell? ⟨gb449, 3, none⟩ = some (.slice none 0 0) := (blk_cell BK449.out 3).trans rfl
  have hfs14 := blk_frozen BK449.out 3
  have hns14_0 := NB448_449.out
  have hms14_0 := NB449_448.out
  refine skip_ (w1 := ?_) (by rfl) rfl ?_ ?_
  rotate_left
  · go_simp
    rfl
  refine hK.out _ _ ⟨((cell_far (p := ⟨gb449, _, none⟩) NB448_449.out _).trans (((cell_far (p := ⟨gb449, _, none⟩) NB448_449.out _).trans (((cell_far (p := ⟨gb449, _, none⟩) NB448_449.out _).trans (((cell_far (p := ⟨gb449, _, none⟩) NB448_449.out _).trans (hHeld.1)))))))), ((cell_far (p := ⟨gb449, _, none⟩) NB448_449.out _).trans (((cell_far (p := ⟨gb449, _, none⟩) NB448_449.out _).trans (((cell_far (p := ⟨gb449, _, none⟩) NB448_449.out _).trans (((cell_far (p := ⟨gb449, _, none⟩) NB448_449.out _).trans (hHeld.2.1)))))))), ((cell_far (p := ⟨gb449, _, none⟩) NB448_449.out _).trans (((cell_far (p := ⟨gb449, _, none⟩) NB448_449.out _).trans (((cell_far (p := ⟨gb449, _, none⟩) NB448_449.out _).trans (((cell_far (p := ⟨gb449, _, none⟩) NB448_449.out _).trans (hHeld.2.2.1)))))))), ((cell_far (p := ⟨gb449, _, none⟩) NB448_449.out _).trans (((cell_far (p := ⟨gb449, _, none⟩) NB448_449.out _).trans (((cell_far (p := ⟨gb449, _, none⟩) NB448_449.out _).trans (((cell_far (p := ⟨gb449, _, none⟩) NB448_449.out _).trans (hHeld.2.2.2))))))))⟩ (fun hHeld => ?_)
  clear hK K
  refine done_ (done_of HT_.out (by kernel_rfl)) ?_
  try go_wp2
  refine bodyPost_ret (results_cell_row rfl _ _ gb449 54 #[.int .i64 a0_0, .int .i64 a0_1, .slice Ao10 t450.length co10, .slice Ao9 t453.length co9] (0, 0) _ rfl (by refine blk_put (cs := #[.int .i64 a0_0, .int .i64 a0_1, .slice Ao10 t450.length co10, .slice none 0 0]) ?_ 3 _ rfl; refine blk_put (cs := #[.int .i64 a0_0, .int .i64 a0_1, .slice none 0 0, .slice none 0 0]) ?_ 2 _ rfl; refine blk_put (cs := #[.int .i64 a0_0, .int .i64 0, .slice none 0 0, .slice none 0 0]) ?_ 1 _ rfl; refine blk_put (cs := #[.int .i64 0, .int .i64 0, .slice none 0 0, .slice none 0 0]) ?_ 0 _ rfl; exact BK449.out) Tryz.underlying54 rfl (by kernel_rfl)) rfl ?_
  exact ⟨_, _, by first | rfl, by exact Kd.S_mono (Kd.S_far (p := ⟨gb449, 3, none⟩) (Kd.S_far (p := ⟨gb449, 2, none⟩) (Kd.S_far (p := ⟨gb449, 1, none⟩) (Kd.S_far (p := ⟨gb449, 0, none⟩) (Kd.S_types HO452.out BK449.out (by decide)) (fun _ hk => hk.2) (.int .i64 a0_0)) (fun _ hk => hk.2) (.int .i64 a0_1)) (fun _ hk => hk.2) (.slice Ao10 t450.length co10)) (fun _ hk => hk.2) (.slice Ao9 t453.length co9)) (fun _ hk => hk.1.2), by exact Kd.S_mono (Kd.S_far (p := ⟨gb449, 3, none⟩) (Kd.S_far (p := ⟨gb449, 2, none⟩) (Kd.S_far (p := ⟨gb449, 1, none⟩) (Kd.S_far (p := ⟨gb449, 0, none⟩) (Kd.S_types HO455.out BK449.out (by decide)) (fun _ hk => hk.2) (.int .i64 a0_0)) (fun _ hk => hk.2) (.int .i64 a0_1)) (fun _ hk => hk.2) (.slice Ao10 t450.length co10)) (fun _ hk => hk.2) (.slice Ao9 t453.length co9)) (fun _ hk => hk.1.2), by repeat (first | (with_reducible first | exact HB.out | refine below_set ?_ GE449.out))⟩

end Go.Proofs.YtmfekngjhiofaaaGreatDoor.Q
