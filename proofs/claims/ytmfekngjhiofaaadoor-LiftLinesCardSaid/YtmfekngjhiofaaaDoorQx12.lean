-- Written by the session's own program (wip/tools/ownprint.py) for this claim: functions of the translation as plain Lean functions, and their contracts.
import Derived.Test.YtmfekngjhiofaaaDoorQx0
import Derived.Test.YtmfekngjhiofaaaDoorQx11
import Derived.Test.YtmfekngjhiofaaaDoorHTab
namespace Go.Proofs.YtmfekngjhiofaaaDoor.Q
open Go.RowKit Go.Proofs.YtmfekngjhiofaaaDoorW.PrintWords Go.Proofs.YtmfekngjhiofaaaDoorW.PrintLast Go.Proofs.YtmfekngjhiofaaaDoorW.PrintMore
attribute [local go_sem] max2_int min2_int max_two min_two max_three min_three max_four min_four   -- for this text's walks alone
set_option linter.unusedVariables false
set_option linter.unusedSimpArgs false

/-! ### proofmarkref30_Few: function 14 -/
def proofmarkref30_Few.l0 : Nat → Int → List (S96) → List (S111) → List (S94) → List (S73) → List (S111) → List (S96) → List (S111) → List (S94) → List (S73) → List (S111) → Option ((List (S96)) × (List (S111)) × (List (S94)) × (List (S73)) × (List (S111)))
  | 0, _, _, _, _, _, _, _, _, _, _, _ => none
  | k + 1, x4, x138000, x138001, x138002, x138003, x138004, x155000, x155001, x155002, x155003, x155004 => if x4 < (x138003.length : Int) then (if x4 < 40 then (if 0 ≤ x4 then (if 0 ≤ (mn (((rd_T73 x138003 x4).f1).size : Int) 12) then (if (mn (((rd_T73 x138003 x4).f1).size : Int) 12) ≤ (((rd_T73 x138003 x4).f1).size : Int) then (if x155003.length < 4398046511104 then (proofmarkref30_Few.l0 k (wrap64 (x4 + 1)) x138000 x138001 x138002 x138003 x138004 x155000 x155001 x155002 (x155003 ++ [(⟨(rd_T73 x138003 x4).f0, ((rd_T73 x138003 x4).f1).extract 0 ((mn (((rd_T73 x138003 x4).f1).size : Int) 12) : Int).toNat, (rd_T73 x138003 x4).f2⟩ : S73)]) x155004) else (none)) else (none)) else (none)) else (none)) else (some (x155000, x155001, x155002, x155003, x155004))) else (some (x155000, x155001, x155002, x155003, x155004))
def proofmarkref30_Few.f (k : Nat) (l0_0 : List (S96)) (l0_1 : List (S111)) (l0_2 : List (S94)) (l0_3 : List (S73)) (l0_4 : List (S111)) : Option ((List (S96)) × (List (S111)) × (List (S94)) × (List (S73)) × (List (S111))) := (proofmarkref27_Few.f k l0_0 l0_1 l0_2 l0_3 l0_4).bind fun bt139 => ((some (([] : List (S96)) : List (S96))).bind fun y155 => (if 0 ≤ (mn (l0_0.length : Int) 40) then (if (mn (l0_0.length : Int) 40) ≤ (l0_0.length : Int) then ((some (l0_0.take ((mn (l0_0.length : Int) 40) : Int).toNat : List (S96))).bind fun y158 => (if y155.length + y158.length < 2513169434916 then (proofmarkref30_Few.l0 k 0 l0_0 l0_1 l0_2 l0_3 l0_4 (y155 ++ y158) bt139.2.1 bt139.2.2.1 bt139.2.2.2.1 bt139.2.2.2.2) else (none))) else (none)) else (none)))
theorem proofmarkref30_Few.mono_l : ∀ k, (∀ y0 y1 y2 y3 y4 y5 y6 y7 y8 y9 y10, LeO (proofmarkref30_Few.l0 k y0 y1 y2 y3 y4 y5 y6 y7 y8 y9 y10) (proofmarkref30_Few.l0 (k + 1) y0 y1 y2 y3 y4 y5 y6 y7 y8 y9 y10))
  | 0 => fun _ _ _ _ _ _ _ _ _ _ _ r h => by simp [proofmarkref30_Few.l0] at h
  | k + 1 => by
    have ih0 := proofmarkref30_Few.mono_l k
    · intro y0 y1 y2 y3 y4 y5 y6 y7 y8 y9 y10
      unfold proofmarkref30_Few.l0
      repeat' first
      | (with_reducible exact ih0 _ _ _ _ _ _ _ _ _ _ _)
      | (with_reducible exact proofmarkref27_Few.mono _ _ _ _ _ _)
      | (with_reducible exact LeO.refl _)
      | (with_reducible exact LeO.none _)
      | (with_reducible refine LeO.ite ?_ ?_)
      | (with_reducible refine LeO.bind ?_ (fun _ => ?_))
      | exact ih0 _ _ _ _ _ _ _ _ _ _ _
      | exact proofmarkref27_Few.mono _ _ _ _ _ _
      | exact LeO.none _
      | refine LeO.ite ?_ ?_
      | refine LeO.bind ?_ (fun _ => ?_)
theorem proofmarkref30_Few.mono : ∀ a0 a1 a2 a3 a4 k, LeO (proofmarkref30_Few.f k a0 a1 a2 a3 a4) (proofmarkref30_Few.f (k + 1) a0 a1 a2 a3 a4) := by
  intro a0 a1 a2 a3 a4 k
  have ih0 := proofmarkref30_Few.mono_l k
  unfold proofmarkref30_Few.f
  repeat' first
      | (with_reducible exact ih0 _ _ _ _ _ _ _ _ _ _ _)
      | (with_reducible exact proofmarkref27_Few.mono _ _ _ _ _ _)
      | (with_reducible exact LeO.refl _)
      | (with_reducible exact LeO.none _)
      | (with_reducible refine LeO.ite ?_ ?_)
      | (with_reducible refine LeO.bind ?_ (fun _ => ?_))
      | exact ih0 _ _ _ _ _ _ _ _ _ _ _
      | exact proofmarkref27_Few.mono _ _ _ _ _ _
      | exact LeO.none _
      | refine LeO.ite ?_ ?_
      | refine LeO.bind ?_ (fun _ => ?_)
set_option maxHeartbeats 8000000 in
set_option maxRecDepth 100000 in
theorem proofmarkref30_Few.calls (k : Nat) (A0_0 : Option Addr) (c0_0 : Nat) (l0_0 : List (S96)) (A0_1 : Option Addr) (c0_1 : Nat) (l0_1 : List (S111)) (A0_2 : Option Addr) (c0_2 : Nat) (l0_2 : List (S94)) (A0_3 : Option Addr) (c0_3 : Nat) (l0_3 : List (S73)) (A0_4 : Option Addr) (c0_4 : Nat) (l0_4 : List (S111)) (r1 : List (S96)) (r2 : List (S111)) (r3 : List (S94)) (r4 : List (S73)) (r5 : List (S111)) (w : World) (hr0_0 : Kd.C k96 w A0_0 l0_0.length l0_0) (hc0_0 : l0_0.length ≤ c0_0) (hr0_1 : Kd.C k111 w A0_1 l0_1.length l0_1) (hc0_1 : l0_1.length ≤ c0_1) (hr0_2 : Kd.C k94 w A0_2 l0_2.length l0_2) (hc0_2 : l0_2.length ≤ c0_2) (hr0_3 : Kd.C k73 w A0_3 l0_3.length l0_3) (hc0_3 : l0_3.length ≤ c0_3) (hr0_4 : Kd.C k111 w A0_4 l0_4.length l0_4) (hc0_4 : l0_4.length ≤ c0_4) (h : proofmarkref30_Few.f k l0_0 l0_1 l0_2 l0_3 l0_4 = some (r1, r2, r3, r4, r5)) :
    Calls Tryd.prog 14 #[.agg #[.slice A0_0 l0_0.length c0_0, .slice A0_1 l0_1.length c0_1, .slice A0_2 l0_2.length c0_2, .slice A0_3 l0_3.length c0_3, .slice A0_4 l0_4.length c0_4]] w fun e w' => ∃ v0_ v1_ v2_ v3_ v4_ : Value, e = .returned (.agg #[v0_, v1_, v2_, v3_, v4_]) ∧ Kd.R k96 96 w' w.heap.size (fun _ => True) v0_ r1 ∧ Kd.R k111 111 w' w.heap.size (fun k_ => some k_ ≠ (v4_ : Value).ownBlock) v1_ r2 ∧ Kd.R k94 94 w' w.heap.size (fun _ => True) v2_ r3 ∧ Kd.R k73 73 w' w.heap.size (fun _ => True) v3_ r4 ∧ Kd.R k111 111 w' w.heap.size (fun k_ => some k_ ≠ (v1_ : Value).ownBlock) v4_ r5 ∧ Below w.heap.size w w' := by
  have hu27 := Tryd.underlying27
  have hu73 := Tryd.underlying73
  have HR0_0 := Aside0.mk hr0_0
  have HC0_0 := Aside0.mk hc0_0
  clear hr0_0 hc0_0
  have HR0_1 := Aside0.mk hr0_1
  have HC0_1 := Aside0.mk hc0_1
  clear hr0_1 hc0_1
  have HR0_2 := Aside0.mk hr0_2
  have HC0_2 := Aside0.mk hc0_2
  clear hr0_2 hc0_2
  have HR0_3 := Aside0.mk hr0_3
  have HC0_3 := Aside0.mk hc0_3
  clear hr0_3 hc0_3
  have HR0_4 := Aside0.mk hr0_4
  have HC0_4 := Aside0.mk hc0_4
  clear hr0_4 hc0_4
  have HB := Aside0.mk (Below.refl w.heap.size w)
  have H : ((proofmarkref27_Few.f k l0_0 l0_1 l0_2 l0_3 l0_4).bind fun bt139 => ((some (([] : List (S96)) : List (S96))).bind fun y155 => (if 0 ≤ (mn (l0_0.length : Int) 40) then (if (mn (l0_0.length : Int) 40) ≤ (l0_0.length : Int) then ((some (l0_0.take ((mn (l0_0.length : Int) 40) : Int).toNat : List (S96))).bind fun y158 => (if y155.length + y158.length < 2513169434916 then (proofmarkref30_Few.l0 k 0 l0_0 l0_1 l0_2 l0_3 l0_4 (y155 ++ y158) bt139.2.1 bt139.2.2.1 bt139.2.2.2.1 bt139.2.2.2.2) else (none))) else (none)) else (none)))) = some (r1, r2, r3, r4, r5) := h
  clear h
  replace H := Option.bind_eq_some_iff.mp H
  obtain ⟨⟨t139, t142, t145, t148, t151⟩, A20, H⟩ := H
  replace H : ((some (([] : List (S96)) : List (S96))).bind fun y155 => (if 0 ≤ (mn (l0_0.length : Int) 40) then (if (mn (l0_0.length : Int) 40) ≤ (l0_0.length : Int) then ((some (l0_0.take ((mn (l0_0.length : Int) 40) : Int).toNat : List (S96))).bind fun y158 => (if y155.length + y158.length < 2513169434916 then (proofmarkref30_Few.l0 k 0 l0_0 l0_1 l0_2 l0_3 l0_4 (y155 ++ y158) t142 t145 t148 t151) else (none))) else (none)) else (none))) = some (r1, r2, r3, r4, r5) := H
  have A2 := Aside0.mk A20
  clear A20
  obtain ⟨y155, hy155⟩ : ∃ y_ : List (S96), y_ = (([] : List (S96))) := ⟨_, rfl⟩
  replace H : (if 0 ≤ (mn (l0_0.length : Int) 40) then (if (mn (l0_0.length : Int) 40) ≤ (l0_0.length : Int) then ((some (l0_0.take ((mn (l0_0.length : Int) 40) : Int).toNat : List (S96))).bind fun y158 => (if y155.length + y158.length < 2513169434916 then (proofmarkref30_Few.l0 k 0 l0_0 l0_1 l0_2 l0_3 l0_4 (y155 ++ y158) t142 t145 t148 t151) else (none))) else (none)) else (none)) = some (r1, r2, r3, r4, r5) := by first | (have H2_ := (Option.bind_some _ _).symm.trans H; rw [hy155]; with_reducible exact H2_)
  have Ny155 := Aside0.mk hy155
  clear hy155
  obtain ⟨ji3, hji3⟩ : ∃ j_ : Int, (mn (l0_0.length : Int) 40) = j_ := ⟨_, rfl⟩
  replace H : (if 0 ≤ (ji3) then (if (ji3) ≤ (l0_0.length : Int) then ((some (l0_0.take ((ji3) : Int).toNat : List (S96))).bind fun y158 => (if y155.length + y158.length < 2513169434916 then (proofmarkref30_Few.l0 k 0 l0_0 l0_1 l0_2 l0_3 l0_4 (y155 ++ y158) t142 t145 t148 t151) else (none))) else (none)) else (none)) = some (r1, r2, r3, r4, r5) := by first | (rw [hji3] at H; exact H)
  (try rw [hji3] at A2)
  (try (have hji3h : ji3 ≤ 40 := by (rw [← hji3]; unfold mn; (repeat' split) <;> omega)))
  (try (have hji3g : ji3 ≤ 64 := by omega))
  (try (have hji3l : 0 ≤ ji3 := by (rw [← hji3]; unfold mn; (repeat' split) <;> omega)))
  (try (have hji3m : 0 ≤ ji3 := by omega))
  have hji3_ : (if 40 < (l0_0.length : Int) then 40 else (l0_0.length : Int)) = ji3 := hji3
  by_cases c4 : 0 ≤ (ji3)
  · rw [if_pos c4] at H
    have c4b0 := eq_true c4
    have c4b1 : decide (0 ≤ (ji3)) = true := decide_eq_true c4
    clear c4
    by_cases c5 : (ji3) ≤ (l0_0.length : Int)
    · rw [if_pos c5] at H
      have c5b0 := eq_true c5
      have c5b1 : decide ((ji3) ≤ (l0_0.length : Int)) = true := decide_eq_true c5
      clear c5
      obtain ⟨y158, hy158⟩ : ∃ y_ : List (S96), y_ = (l0_0.take ((ji3) : Int).toNat) := ⟨_, rfl⟩
      replace H : (if y155.length + y158.length < 2513169434916 then (proofmarkref30_Few.l0 k 0 l0_0 l0_1 l0_2 l0_3 l0_4 (y155 ++ y158) t142 t145 t148 t151) else (none)) = some (r1, r2, r3, r4, r5) := by first | (have H2_ := (Option.bind_some _ _).symm.trans H; rw [hy158]; with_reducible exact H2_)
      have Ny158 := Aside0.mk hy158
      clear hy158
      by_cases c6 : y155.length + y158.length < 2513169434916
      · rw [if_pos c6] at H
        have LMc6 := Aside0.mk c6
        clear c6
        obtain ⟨y162, hy162⟩ : ∃ y_ : List (S96), y_ = (y155 ++ y158) := ⟨_, rfl⟩
        replace H : (proofmarkref30_Few.l0 k 0 l0_0 l0_1 l0_2 l0_3 l0_4 y162 t142 t145 t148 t151) = some (r1, r2, r3, r4, r5) := by first | (rw [hy162]; with_reducible exact H)
        have Ny162 := Aside0.mk hy162
        clear hy162
        have H' := Aside0.mk H
        clear H
        go_enter Tryd.func14, Tryd.ntmps14
        go_wp2_with (first | ((with_reducible refine gate_dst (N := 1) rfl ?_); refine box_event ?hg (N := 1) ?hd (cs := #[.slice A0_0 l0_0.length c0_0, .slice A0_1 l0_1.length c0_1, .slice A0_2 l0_2.length c0_2, .slice A0_3 l0_3.length c0_3, .slice A0_4 l0_4.length c0_4]) (t := 27) ?hr ?_; (case hd => rfl); (case hg => rfl); (case hr => first | (go_simp; done)); intro gb137 hg w7 hbox hb; have n0_ := Aside0.mk (below_step HB.out hb); have n1_ := Aside0.mk (hbox); have n2_ := Aside0.mk ((by rw [hg]; exact (below_size HB.out) : w.heap.size ≤ gb137)); have n3_ := Aside0.mk ((by rw [hg]; exact (below_size HB.out) : w.heap.size ≤ gb137)); clear HB; have HB := n0_; have BK137 := n1_; have GW137 := n2_; have GE137 := n3_; clear n0_ n1_ n2_ n3_; clear hb hbox hg) | ((with_reducible refine gate_dst (N := 2) rfl ?_); refine box_event ?hg (N := 2) ?hd (cs := #[.slice none 0 0, .slice none 0 0, .slice none 0 0, .slice none 0 0, .slice none 0 0]) (t := 27) ?hr ?_; (case hd => rfl); (case hg => rfl); (case hr => first | (go_simp; done)); intro gb138 hg w8 hbox hb; have n0_ := Aside0.mk (blk_below BK137.out hb); have n1_ := Aside0.mk (below_step HB.out hb); have n2_ := Aside0.mk (hbox); have n3_ := Aside0.mk ((by rw [hg]; exact (below_size HB.out) : w.heap.size ≤ gb138)); have n4_ := Aside0.mk ((by rw [hg]; exact (below_size HB.out) : w.heap.size ≤ gb138)); have n5_ := Aside0.mk ((by rw [hg]; exact Nat.ne_of_lt (blk_lt BK137.out) : gb137 ≠ gb138)); have n6_ := Aside0.mk ((by rw [hg]; exact Nat.ne_of_gt (blk_lt BK137.out) : gb138 ≠ gb137)); clear BK137; clear HB; have BK137 := n0_; have HB := n1_; have BK138 := n2_; have GW138 := n3_; have GE138 := n4_; have NB137_138 := n5_; have NB138_137 := n6_; clear n0_ n1_ n2_ n3_ n4_ n5_ n6_; clear hb hbox hg; have hnb9 := NB137_138.out; have hnc9 := NB138_137.out; have hcz10_0 : w8.cell? ⟨gb137, 0, none⟩ = some (.slice A0_0 l0_0.length c0_0) := (blk_cell BK137.out 0).trans rfl; have hcz10_1 : w8.cell? ⟨gb137, 1, none⟩ = some (.slice A0_1 l0_1.length c0_1) := (blk_cell BK137.out 1).trans rfl; have hcz10_2 : w8.cell? ⟨gb137, 2, none⟩ = some (.slice A0_2 l0_2.length c0_2) := (blk_cell BK137.out 2).trans rfl; have hcz10_3 : w8.cell? ⟨gb137, 3, none⟩ = some (.slice A0_3 l0_3.length c0_3) := (blk_cell BK137.out 3).trans rfl; have hcz10_4 : w8.cell? ⟨gb137, 4, none⟩ = some (.slice A0_4 l0_4.length c0_4) := (blk_cell BK137.out 4).trans rfl; have hfz10_0 := blk_frozen BK137.out 0; have hfz10_1 := blk_frozen BK137.out 1; have hfz10_2 := blk_frozen BK137.out 2; have hfz10_3 := blk_frozen BK137.out 3; have hfz10_4 := blk_frozen BK137.out 4) | ((with_reducible refine gate_callee (f := 33) rfl ?_); refine goesL_ (some 7) rfl rfl Tryd.func33 (by kernel_rfl) rfl #[.agg #[.slice A0_0 l0_0.length c0_0, .slice A0_1 l0_1.length c0_1, .slice A0_2 l0_2.length c0_2, .slice A0_3 l0_3.length c0_3, .slice A0_4 l0_4.length c0_4]] rfl (by (try simp only [List.map_toArray, List.map_cons, List.map_nil]); first | rfl) ?_; (with_reducible refine (proofmarkref27_Few.calls k _ _ l0_0 _ _ l0_1 _ _ l0_2 _ _ l0_3 _ _ l0_4 t139 t142 t145 t148 t151 _ ?side1 ?side2 ?side3 ?side4 ?side5 ?side6 ?side7 ?side8 ?side9 ?side10 A2.out).mono ?_); (case side1 => repeat (first | exact (Kd.C_below HR0_0.out HB.out))); (case side2 => exact HC0_0.out); (case side3 => repeat (first | exact (Kd.C_below HR0_1.out HB.out))); (case side4 => exact HC0_1.out); (case side5 => repeat (first | exact (Kd.C_below HR0_2.out HB.out))); (case side6 => exact HC0_2.out); (case side7 => repeat (first | exact (Kd.C_below HR0_3.out HB.out))); (case side8 => exact HC0_3.out); (case side9 => repeat (first | exact (Kd.C_below HR0_4.out HB.out))); (case side10 => exact HC0_4.out); rintro e w11 ⟨v140, v143, v146, v149, v152, rfl, ho0, ho1, ho2, ho3, ho4, hb⟩; refine ⟨_, rfl, ?_⟩; have n0_ := Aside0.mk (Kd.R_lower ho0 (below_size HB.out)); have n1_ := Aside0.mk (Kd.R_lower ho1 (below_size HB.out)); have n2_ := Aside0.mk (Kd.R_lower ho2 (below_size HB.out)); have n3_ := Aside0.mk (Kd.R_lower ho3 (below_size HB.out)); have n4_ := Aside0.mk (Kd.R_lower ho4 (below_size HB.out)); have n5_ := Aside0.mk (blk_below BK137.out hb); have n6_ := Aside0.mk (blk_below BK138.out hb); have n7_ := Aside0.mk (below_step HB.out hb); clear BK137; clear BK138; clear HB; have HO141 := n0_; have HO144 := n1_; have HO147 := n2_; have HO150 := n3_; have HO153 := n4_; have BK137 := n5_; have BK138 := n6_; have HB := n7_; clear n0_ n1_ n2_ n3_ n4_ n5_ n6_ n7_; (try clear hb); (try clear hb2); (try clear hk); (try clear hi); (try clear ho0); (try clear ho1); (try clear ho2); (try clear ho3); (try clear ho4)) | ((with_reducible refine gate_dst (N := 3) rfl ?_); refine box_event ?hg (N := 3) ?hd (cs := #[.slice none 0 0, .slice none 0 0, .slice none 0 0, .slice none 0 0, .slice none 0 0]) (t := 27) ?hr ?_; (case hd => rfl); (case hg => rfl); (case hr => first | (go_simp; done)); intro gb154 hg w12 hbox hb; have n0_ := Aside0.mk (Kd.R_below HO141.out hb); have n1_ := Aside0.mk (Kd.R_below HO144.out hb); have n2_ := Aside0.mk (Kd.R_below HO147.out hb); have n3_ := Aside0.mk (Kd.R_below HO150.out hb); have n4_ := Aside0.mk (Kd.R_below HO153.out hb); have n5_ := Aside0.mk (blk_below BK137.out hb); have n6_ := Aside0.mk (blk_below BK138.out hb); have n7_ := Aside0.mk (below_step HB.out hb); have n8_ := Aside0.mk (hbox); have n9_ := Aside0.mk ((by rw [hg]; exact (below_size HB.out) : w.heap.size ≤ gb154)); have n10_ := Aside0.mk ((by rw [hg]; exact (below_size HB.out) : w.heap.size ≤ gb154)); have n11_ := Aside0.mk ((by rw [hg]; exact Nat.ne_of_lt (blk_lt BK137.out) : gb137 ≠ gb154)); have n12_ := Aside0.mk ((by rw [hg]; exact Nat.ne_of_gt (blk_lt BK137.out) : gb154 ≠ gb137)); have n13_ := Aside0.mk ((by rw [hg]; exact Nat.ne_of_lt (blk_lt BK138.out) : gb138 ≠ gb154)); have n14_ := Aside0.mk ((by rw [hg]; exact Nat.ne_of_gt (blk_lt BK138.out) : gb154 ≠ gb138)); clear HO141; clear HO144; clear HO147; clear HO150; clear HO153; clear BK137; clear BK138; clear HB; have HO141 := n0_; have HO144 := n1_; have HO147 := n2_; have HO150 := n3_; have HO153 := n4_; have BK137 := n5_; have BK138 := n6_; have HB := n7_; have BK154 := n8_; have GW154 := n9_; have GE154 := n10_; have NB137_154 := n11_; have NB154_137 := n12_; have NB138_154 := n13_; have NB154_138 := n14_; clear n0_ n1_ n2_ n3_ n4_ n5_ n6_ n7_ n8_ n9_ n10_ n11_ n12_ n13_ n14_; clear hb hbox hg; obtain ⟨Ao13, co13, eo13⟩ := Kd.R_slice HO141.out; subst eo13; have hnb14 := NB154_137.out; have hnc14 := NB137_154.out; have hnb15 := NB154_138.out; have hnc15 := NB138_154.out; have hcz16_0 : w12.cell? ⟨gb154, 0, none⟩ = some (.slice none 0 0) := (blk_cell BK154.out 0).trans rfl; have hcz16_1 : w12.cell? ⟨gb154, 1, none⟩ = some (.slice none 0 0) := (blk_cell BK154.out 1).trans rfl; have hcz16_2 : w12.cell? ⟨gb154, 2, none⟩ = some (.slice none 0 0) := (blk_cell BK154.out 2).trans rfl; have hcz16_3 : w12.cell? ⟨gb154, 3, none⟩ = some (.slice none 0 0) := (blk_cell BK154.out 3).trans rfl; have hcz16_4 : w12.cell? ⟨gb154, 4, none⟩ = some (.slice none 0 0) := (blk_cell BK154.out 4).trans rfl; have hfz16_0 := blk_frozen BK154.out 0; have hfz16_1 := blk_frozen BK154.out 1; have hfz16_2 := blk_frozen BK154.out 2; have hfz16_3 := blk_frozen BK154.out 3; have hfz16_4 := blk_frozen BK154.out 4; obtain ⟨Ao17, co17, eo17⟩ := Kd.R_slice HO144.out; subst eo17; obtain ⟨Ao18, co18, eo18⟩ := Kd.R_slice HO147.out; subst eo18; obtain ⟨Ao19, co19, eo19⟩ := Kd.R_slice HO150.out; subst eo19; obtain ⟨Ao20, co20, eo20⟩ := Kd.R_slice HO153.out; subst eo20) | ((with_reducible refine gate_dst (N := 8) rfl ?_); refine Kd.R_lit k96 _ 96 ?hg (N := 8) ?hd (xs := ([] : List (S96))) (inner := []) (ok := fun _ => True) (okp := fun _ => True) ?hr ?hp (fun _ hk => hk) trivial (Below.refl _ _) (Nat.le_refl _) (by simp) ?_; (case hd => rfl); (case hg => rfl); (case hr => first | (go_simp; done)); (case hp => exact (Reps.none _ _)); intro v156 w21 ho22 hb hg_ hnew_; clear hg_ hnew_; (first | rw [← Ny155.out] at ho22); have n0_ := Aside0.mk (Kd.R_elder' (by exact (Kd.R_mono (Kd.R_far (p := ⟨gb154, 4, none⟩) (Kd.R_far (p := ⟨gb154, 3, none⟩) (Kd.R_far (p := ⟨gb154, 2, none⟩) (Kd.R_far (p := ⟨gb154, 1, none⟩) (Kd.R_far (p := ⟨gb154, 0, none⟩) (Kd.R_types HO141.out BK154.out (by decide)) (fun _ hk => hk.2) (.slice Ao13 t139.length co13)) (fun _ hk => hk.2) (.slice Ao17 t142.length co17)) (fun _ hk => hk.2) (.slice Ao18 t145.length co18)) (fun _ hk => hk.2) (.slice Ao19 t148.length co19)) (fun _ hk => hk.2) (.slice Ao20 t151.length co20)) (fun _ h_ => h_.1))) (Kd.R_base ho22) hb); have n1_ := Aside0.mk (Kd.R_below (by exact (Kd.R_mono (Kd.R_far (p := ⟨gb154, 4, none⟩) (Kd.R_far (p := ⟨gb154, 3, none⟩) (Kd.R_far (p := ⟨gb154, 2, none⟩) (Kd.R_far (p := ⟨gb154, 1, none⟩) (Kd.R_far (p := ⟨gb154, 0, none⟩) (Kd.R_types HO144.out BK154.out (by decide)) (fun _ hk => hk.2) (.slice Ao13 t139.length co13)) (fun _ hk => hk.2) (.slice Ao17 t142.length co17)) (fun _ hk => hk.2) (.slice Ao18 t145.length co18)) (fun _ hk => hk.2) (.slice Ao19 t148.length co19)) (fun _ hk => hk.2) (.slice Ao20 t151.length co20)) (fun _ h_ => h_.1))) hb); have n2_ := Aside0.mk (Kd.R_below (by exact (Kd.R_mono (Kd.R_far (p := ⟨gb154, 4, none⟩) (Kd.R_far (p := ⟨gb154, 3, none⟩) (Kd.R_far (p := ⟨gb154, 2, none⟩) (Kd.R_far (p := ⟨gb154, 1, none⟩) (Kd.R_far (p := ⟨gb154, 0, none⟩) (Kd.R_types HO147.out BK154.out (by decide)) (fun _ hk => hk.2) (.slice Ao13 t139.length co13)) (fun _ hk => hk.2) (.slice Ao17 t142.length co17)) (fun _ hk => hk.2) (.slice Ao18 t145.length co18)) (fun _ hk => hk.2) (.slice Ao19 t148.length co19)) (fun _ hk => hk.2) (.slice Ao20 t151.length co20)) (fun _ h_ => h_.1))) hb); have n3_ := Aside0.mk (Kd.R_below (by exact (Kd.R_mono (Kd.R_far (p := ⟨gb154, 4, none⟩) (Kd.R_far (p := ⟨gb154, 3, none⟩) (Kd.R_far (p := ⟨gb154, 2, none⟩) (Kd.R_far (p := ⟨gb154, 1, none⟩) (Kd.R_far (p := ⟨gb154, 0, none⟩) (Kd.R_types HO150.out BK154.out (by decide)) (fun _ hk => hk.2) (.slice Ao13 t139.length co13)) (fun _ hk => hk.2) (.slice Ao17 t142.length co17)) (fun _ hk => hk.2) (.slice Ao18 t145.length co18)) (fun _ hk => hk.2) (.slice Ao19 t148.length co19)) (fun _ hk => hk.2) (.slice Ao20 t151.length co20)) (fun _ h_ => h_.1))) hb); have n4_ := Aside0.mk (Kd.R_below (by exact (Kd.R_mono (Kd.R_far (p := ⟨gb154, 4, none⟩) (Kd.R_far (p := ⟨gb154, 3, none⟩) (Kd.R_far (p := ⟨gb154, 2, none⟩) (Kd.R_far (p := ⟨gb154, 1, none⟩) (Kd.R_far (p := ⟨gb154, 0, none⟩) (Kd.R_types HO153.out BK154.out (by decide)) (fun _ hk => hk.2) (.slice Ao13 t139.length co13)) (fun _ hk => hk.2) (.slice Ao17 t142.length co17)) (fun _ hk => hk.2) (.slice Ao18 t145.length co18)) (fun _ hk => hk.2) (.slice Ao19 t148.length co19)) (fun _ hk => hk.2) (.slice Ao20 t151.length co20)) (fun _ h_ => h_.1))) hb); have n5_ := Aside0.mk (Kd.R_lower (Kd.R_new' ho22 (Kd.R_lt (by exact (Kd.R_mono (Kd.R_far (p := ⟨gb154, 4, none⟩) (Kd.R_far (p := ⟨gb154, 3, none⟩) (Kd.R_far (p := ⟨gb154, 2, none⟩) (Kd.R_far (p := ⟨gb154, 1, none⟩) (Kd.R_far (p := ⟨gb154, 0, none⟩) (Kd.R_types HO141.out BK154.out (by decide)) (fun _ hk => hk.2) (.slice Ao13 t139.length co13)) (fun _ hk => hk.2) (.slice Ao17 t142.length co17)) (fun _ hk => hk.2) (.slice Ao18 t145.length co18)) (fun _ hk => hk.2) (.slice Ao19 t148.length co19)) (fun _ hk => hk.2) (.slice Ao20 t151.length co20)) (fun _ h_ => h_.1))))) (below_size (by repeat (first | (with_reducible first | exact HB.out | refine below_set ?_ GE154.out))))); have n6_ := Aside0.mk (blk_below (g := gb137) (o := .cells #[.slice A0_0 l0_0.length c0_0, .slice A0_1 l0_1.length c0_1, .slice A0_2 l0_2.length c0_2, .slice A0_3 l0_3.length c0_3, .slice A0_4 l0_4.length c0_4] 27 (0, 0)) (by refine blk_far ?_ NB137_154.out _; refine blk_far ?_ NB137_154.out _; refine blk_far ?_ NB137_154.out _; refine blk_far ?_ NB137_154.out _; refine blk_far ?_ NB137_154.out _; exact BK137.out) hb); have n7_ := Aside0.mk (blk_below (g := gb138) (o := .cells #[.slice none 0 0, .slice none 0 0, .slice none 0 0, .slice none 0 0, .slice none 0 0] 27 (0, 0)) (by refine blk_far ?_ NB138_154.out _; refine blk_far ?_ NB138_154.out _; refine blk_far ?_ NB138_154.out _; refine blk_far ?_ NB138_154.out _; refine blk_far ?_ NB138_154.out _; exact BK138.out) hb); have n8_ := Aside0.mk (blk_below (g := gb154) (o := .cells #[.slice Ao13 t139.length co13, .slice Ao17 t142.length co17, .slice Ao18 t145.length co18, .slice Ao19 t148.length co19, .slice Ao20 t151.length co20] 27 (0, 0)) (by refine blk_put (cs := #[.slice Ao13 t139.length co13, .slice Ao17 t142.length co17, .slice Ao18 t145.length co18, .slice Ao19 t148.length co19, .slice none 0 0]) ?_ 4 _ rfl; refine blk_put (cs := #[.slice Ao13 t139.length co13, .slice Ao17 t142.length co17, .slice Ao18 t145.length co18, .slice none 0 0, .slice none 0 0]) ?_ 3 _ rfl; refine blk_put (cs := #[.slice Ao13 t139.length co13, .slice Ao17 t142.length co17, .slice none 0 0, .slice none 0 0, .slice none 0 0]) ?_ 2 _ rfl; refine blk_put (cs := #[.slice Ao13 t139.length co13, .slice none 0 0, .slice none 0 0, .slice none 0 0, .slice none 0 0]) ?_ 1 _ rfl; refine blk_put (cs := #[.slice none 0 0, .slice none 0 0, .slice none 0 0, .slice none 0 0, .slice none 0 0]) ?_ 0 _ rfl; exact BK154.out) hb); have n9_ := Aside0.mk (below_step (by repeat (first | (with_reducible first | exact HB.out | refine below_set ?_ GE154.out))) hb); clear HO141; clear HO144; clear HO147; clear HO150; clear HO153; clear BK137; clear BK138; clear BK154; clear HB; have HO141 := n0_; have HO144 := n1_; have HO147 := n2_; have HO150 := n3_; have HO153 := n4_; have HO157 := n5_; have BK137 := n6_; have BK138 := n7_; have BK154 := n8_; have HB := n9_; clear n0_ n1_ n2_ n3_ n4_ n5_ n6_ n7_ n8_ n9_; clear hb ho22; have hcz23_0 : w21.cell? ⟨gb137, 0, none⟩ = some (.slice A0_0 l0_0.length c0_0) := (blk_cell BK137.out 0).trans rfl; have hcz23_1 : w21.cell? ⟨gb137, 1, none⟩ = some (.slice A0_1 l0_1.length c0_1) := (blk_cell BK137.out 1).trans rfl; have hcz23_2 : w21.cell? ⟨gb137, 2, none⟩ = some (.slice A0_2 l0_2.length c0_2) := (blk_cell BK137.out 2).trans rfl; have hcz23_3 : w21.cell? ⟨gb137, 3, none⟩ = some (.slice A0_3 l0_3.length c0_3) := (blk_cell BK137.out 3).trans rfl; have hcz23_4 : w21.cell? ⟨gb137, 4, none⟩ = some (.slice A0_4 l0_4.length c0_4) := (blk_cell BK137.out 4).trans rfl; have hfz23_0 := blk_frozen BK137.out 0; have hfz23_1 := blk_frozen BK137.out 1; have hfz23_2 := blk_frozen BK137.out 2; have hfz23_3 := blk_frozen BK137.out 3; have hfz23_4 := blk_frozen BK137.out 4; have q24 : ((ji3) : Int) ≤ ((l0_0.length : Int) : Int) := of_decide_eq_true (by first | (with_reducible assumption)); obtain ⟨i024, hi024, _, hsz24, _⟩ := info_parts info96; have hroom24 : l0_0.length ≤ c0_0 := HC0_0.out; have hC24 : Kd.C k96 _ A0_0 l0_0.length l0_0 := HR0_0.out; have hcut24 := cut_to (P := Tryd.prog) 22 96 .i64 Tryd.underlying22 hi024 A0_0 l0_0.length c0_0 (ji3) (of_decide_eq_true (by first | (with_reducible assumption))) q24 hroom24; have hr24 := Kd.C_take (m := ((ji3) : Int).toNat) hC24 (by omega); have hy24 : y158.length = ((ji3) : Int).toNat := (by rw [Ny158.out, List.length_take]; omega); rw [← Ny158.out] at hr24; rw [← hy24] at hcut24; have HR161 := Aside0.mk hr24; have HC161 := Aside0.mk (show y158.length ≤ c0_0 from by omega); clear hr24 hC24 hroom24 hi024 hsz24; have KY24 := Aside0.mk hy24; clear hy24; replace q24 := eq_true q24) | ((with_reducible refine gate_builtin (b := .append) (xs := #[.tmp 8, .tmp 15]) rfl ?_); at_builtin; refine Kd.R_append_rows k96 (w0 := w) w.heap.size rfl (.tmp 8) (.tmp 15) 22 96 (.agg #[(.int .i64 0), (.int .i64 0), (.int .i64 0), (.int .i64 0), (.int .i64 0), (.int .i64 0), (.int .i64 0)]) 56 rfl Tryd.underlying22 info96 rfl (by decide) (by omega) v156 y155 y158 _ _ _ (fun k_ => some k_ ≠ (.slice Ao13 t139.length co13 : Value).ownBlock) (fun _ => False) rfl rfl ?aO ?aR (fun _ _ h => h) (fun _ h => h.elim) ?aF ?aB ?aS ?aL ?_; (case aR => repeat (first | exact (Kd.C_below HR161.out HB.out))); (case aB => exact HB.out); (case aF => exact (fun k_ hk => Kd.fresh' (Kd.R_lt HO141.out) k_ hk)); (case aO => exact (by exact Kd.R_mono HO157.out (fun _ hk => hk.2))); (case aS => exact (below_size HB.out)); (case aL => have := LMc6.out; omega); intro v163 w25 ho hb hg hat; rw [← Ny162.out] at ho; have n0_ := Aside0.mk (blk_grown (g := gb137) (o := .cells #[.slice A0_0 l0_0.length c0_0, .slice A0_1 l0_1.length c0_1, .slice A0_2 l0_2.length c0_2, .slice A0_3 l0_3.length c0_3, .slice A0_4 l0_4.length c0_4] 27 (0, 0)) BK137.out hg (Kd.R_ne HO157.out BK137.out (by decide))); have n1_ := Aside0.mk (blk_grown (g := gb138) (o := .cells #[.slice none 0 0, .slice none 0 0, .slice none 0 0, .slice none 0 0, .slice none 0 0] 27 (0, 0)) BK138.out hg (Kd.R_ne HO157.out BK138.out (by decide))); have n2_ := Aside0.mk (Kd.R_after (ok := (fun _ => True)) HO141.out hg hat); have n3_ := Aside0.mk (Kd.R_over' HO144.out (Kd.R_typed HO157.out) (by decide) hg); have n4_ := Aside0.mk (Kd.R_over' HO147.out (Kd.R_typed HO157.out) (by decide) hg); have n5_ := Aside0.mk (Kd.R_over' HO150.out (Kd.R_typed HO157.out) (by decide) hg); have n6_ := Aside0.mk (Kd.R_over' HO153.out (Kd.R_typed HO157.out) (by decide) hg); have n7_ := Aside0.mk (blk_grown (g := gb154) (o := .cells #[.slice Ao13 t139.length co13, .slice Ao17 t142.length co17, .slice Ao18 t145.length co18, .slice Ao19 t148.length co19, .slice Ao20 t151.length co20] 27 (0, 0)) BK154.out hg (Kd.R_ne HO157.out BK154.out (by decide))); have n8_ := Aside0.mk (hb); have n9_ := Aside0.mk (ho); clear BK137; clear BK138; clear HO141; clear HO144; clear HO147; clear HO150; clear HO153; clear BK154; clear HB; clear HO157; have BK137 := n0_; have BK138 := n1_; have HO141 := n2_; have HO144 := n3_; have HO147 := n4_; have HO150 := n5_; have HO153 := n6_; have BK154 := n7_; have HB := n8_; have HO164 := n9_; clear n0_ n1_ n2_ n3_ n4_ n5_ n6_ n7_ n8_ n9_; clear ho hb hg hat; obtain ⟨Ao26, co26, eo26⟩ := Kd.R_slice HO164.out; subst eo26; have hcz27_0 : w25.cell? ⟨gb154, 0, none⟩ = some (.slice Ao13 t139.length co13) := (blk_cell BK154.out 0).trans rfl; have hcz27_1 : w25.cell? ⟨gb154, 1, none⟩ = some (.slice Ao17 t142.length co17) := (blk_cell BK154.out 1).trans rfl; have hcz27_2 : w25.cell? ⟨gb154, 2, none⟩ = some (.slice Ao18 t145.length co18) := (blk_cell BK154.out 2).trans rfl; have hcz27_3 : w25.cell? ⟨gb154, 3, none⟩ = some (.slice Ao19 t148.length co19) := (blk_cell BK154.out 3).trans rfl; have hcz27_4 : w25.cell? ⟨gb154, 4, none⟩ = some (.slice Ao20 t151.length co20) := (blk_cell BK154.out 4).trans rfl; have hfz27_0 := blk_frozen BK154.out 0; have hfz27_1 := blk_frozen BK154.out 1; have hfz27_2 := blk_frozen BK154.out 2; have hfz27_3 := blk_frozen BK154.out 3; have hfz27_4 := blk_frozen BK154.out 4))
        try simp only [Act.put, List.setIfInBounds_toArray, List.set_cons_succ, List.set_cons_zero]
        go_loopg [4] k (fun kq v4 w' => ∃ (x4_1 : Int) (x155003_1 : List (S73)) (u155003 : Value), v4 = .int .i64 x4_1 ∧ Aside0 (proofmarkref30_Few.l0 kq x4_1 l0_0 l0_1 l0_2 l0_3 l0_4 y162 t142 t145 x155003_1 t151 = some (r1, r2, r3, r4, r5)) ∧ Aside0 (kq ≤ k) ∧ Aside0 (Kd.R k96 96 w' w.heap.size (fun _ => True) (.slice Ao26 y162.length co26) y162) ∧ Aside0 (Kd.R k111 111 w' w.heap.size (fun k_ => some k_ ≠ ((.slice Ao20 t151.length co20) : Value).ownBlock) (.slice Ao17 t142.length co17) t142) ∧ Aside0 (Kd.R k94 94 w' w.heap.size (fun _ => True) (.slice Ao18 t145.length co18) t145) ∧ Aside0 (Kd.R k73 73 w' w.heap.size (fun _ => True) u155003 x155003_1) ∧ Aside0 (Kd.R k111 111 w' w.heap.size (fun k_ => some k_ ≠ ((.slice Ao17 t142.length co17) : Value).ownBlock) (.slice Ao20 t151.length co20) t151) ∧ Aside0 (w'.heap[gb137]? = some (.cells #[(.slice A0_0 l0_0.length c0_0), (.slice A0_1 l0_1.length c0_1), (.slice A0_2 l0_2.length c0_2), (.slice A0_3 l0_3.length c0_3), (.slice A0_4 l0_4.length c0_4)] 27 (0, 0))) ∧ Aside0 (w'.heap[gb138]? = some (.cells #[(.slice none 0 0), (.slice none 0 0), (.slice none 0 0), (.slice none 0 0), (.slice none 0 0)] 27 (0, 0))) ∧ Aside0 (w'.heap[gb154]? = some (.cells #[(.slice Ao26 y162.length co26), (.slice Ao17 t142.length co17), (.slice Ao18 t145.length co18), u155003, (.slice Ao20 t151.length co20)] 27 (0, 0))) ∧ Aside0 (Below w.heap.size w w'))
        case atStart => exact ⟨(0), (t148), (.slice Ao19 t148.length co19), rfl, H', ⟨Nat.le_refl _⟩, ⟨by exact Kd.R_mono (Kd.R_far (p := ⟨gb154, 0, none⟩) (Kd.R_types HO164.out BK154.out (by decide)) (fun _ hk => hk.2) (.slice Ao26 y162.length co26)) (fun _ hk => trivial)⟩, ⟨by exact Kd.R_mono (Kd.R_far (p := ⟨gb154, 0, none⟩) (Kd.R_types HO144.out BK154.out (by decide)) (fun _ hk => hk.2) (.slice Ao26 y162.length co26)) (fun _ hk => hk.1)⟩, ⟨by exact Kd.R_mono (Kd.R_far (p := ⟨gb154, 0, none⟩) (Kd.R_types HO147.out BK154.out (by decide)) (fun _ hk => hk.2) (.slice Ao26 y162.length co26)) (fun _ hk => trivial)⟩, ⟨by exact Kd.R_mono (Kd.R_far (p := ⟨gb154, 0, none⟩) (Kd.R_types HO150.out BK154.out (by decide)) (fun _ hk => hk.2) (.slice Ao26 y162.length co26)) (fun _ hk => trivial)⟩, ⟨by exact Kd.R_mono (Kd.R_far (p := ⟨gb154, 0, none⟩) (Kd.R_types HO153.out BK154.out (by decide)) (fun _ hk => hk.2) (.slice Ao26 y162.length co26)) (fun _ hk => hk.1)⟩, ⟨by refine blk_far ?_ NB137_154.out _; exact BK137.out⟩, ⟨by refine blk_far ?_ NB138_154.out _; exact BK138.out⟩, ⟨by refine blk_put (cs := #[.slice Ao13 t139.length co13, .slice Ao17 t142.length co17, .slice Ao18 t145.length co18, .slice Ao19 t148.length co19, .slice Ao20 t151.length co20]) ?_ 0 _ rfl; exact BK154.out⟩, ⟨by repeat (first | (with_reducible first | exact HB.out | refine below_set ?_ GE154.out))⟩⟩
        case round =>
          clear H'
          try clear c1
          try clear p2
          try clear q2
          try clear c3
          try clear c4
          try clear c4b0
          try clear c4b1
          try clear c5
          try clear c5b0
          try clear c5b1
          try clear c6
          try clear c9
          try clear c14
          try clear c15
          try clear q24
          try clear hcz10_0
          try clear hcz10_1
          try clear hcz10_2
          try clear hcz10_3
          try clear hcz10_4
          try clear hcz16_0
          try clear hcz16_1
          try clear hcz16_2
          try clear hcz16_3
          try clear hcz16_4
          try clear hcz23_0
          try clear hcz23_1
          try clear hcz23_2
          try clear hcz23_3
          try clear hcz23_4
          try clear hcz27_0
          try clear hcz27_1
          try clear hcz27_2
          try clear hcz27_3
          try clear hcz27_4
          try clear hfz10_0
          try clear hfz10_1
          try clear hfz10_2
          try clear hfz10_3
          try clear hfz10_4
          try clear hfz16_0
          try clear hfz16_1
          try clear hfz16_2
          try clear hfz16_3
          try clear hfz16_4
          try clear hfz23_0
          try clear hfz23_1
          try clear hfz23_2
          try clear hfz23_3
          try clear hfz23_4
          try clear hfz27_0
          try clear hfz27_1
          try clear hfz27_2
          try clear hfz27_3
          try clear hfz27_4
          try clear q24
          obtain ⟨x4_1, x155003_1, u155003, rfl, HA, HK1, HO_155000, HO_155001, HO_155002, HO_155003, HO_155004, BK137, BK138, BK154, HB⟩ := hrel
          cases gk with
          | zero => exact absurd HA.out (by simp [proofmarkref30_Few.l0])
          | succ k1 =>
            have H := HA.out
            clear HA
            simp only [proofmarkref30_Few.l0] at H
            by_cases c28 : x4_1 < (l0_3.length : Int)
            · rw [if_pos c28] at H
              have c28b0 : decide (x4_1 < (l0_3.length : Int)) = true := decide_eq_true c28
              clear c28
              by_cases c29 : x4_1 < 40
              · rw [if_pos c29] at H
                have c29b0 : decide (x4_1 < 40) = true := decide_eq_true c29
                clear c29
                by_cases c30 : 0 ≤ x4_1
                · rw [if_pos c30] at H
                  have c30b0 : decide (0 ≤ x4_1) = true := decide_eq_true c30
                  clear c30
                  obtain ⟨ji31, hji31⟩ : ∃ j_ : Int, (mn (((rd_T73 l0_3 x4_1).f1).size : Int) 12) = j_ := ⟨_, rfl⟩
                  replace H : (if 0 ≤ (ji31) then (if (ji31) ≤ (((rd_T73 l0_3 x4_1).f1).size : Int) then (if x155003_1.length < 4398046511104 then (proofmarkref30_Few.l0 k1 (wrap64 (x4_1 + 1)) l0_0 l0_1 l0_2 l0_3 l0_4 y162 t142 t145 (x155003_1 ++ [(⟨(rd_T73 l0_3 x4_1).f0, ((rd_T73 l0_3 x4_1).f1).extract 0 ((ji31) : Int).toNat, (rd_T73 l0_3 x4_1).f2⟩ : S73)]) t151) else (none)) else (none)) else (none)) = some (r1, r2, r3, r4, r5) := by first | (rw [hji31] at H; exact H)
                  have hji31_ : (if 12 < (((rd_T73 l0_3 x4_1).f1).size : Int) then 12 else (((rd_T73 l0_3 x4_1).f1).size : Int)) = ji31 := hji31
                  by_cases c32 : 0 ≤ (ji31)
                  · rw [if_pos c32] at H
                    have c32b0 := eq_true c32
                    have c32b1 : decide (0 ≤ (ji31)) = true := decide_eq_true c32
                    clear c32
                    by_cases c33 : (ji31) ≤ (((rd_T73 l0_3 x4_1).f1).size : Int)
                    · rw [if_pos c33] at H
                      have c33b0 := eq_true c33
                      have c33b1 : decide ((ji31) ≤ (((rd_T73 l0_3 x4_1).f1).size : Int)) = true := decide_eq_true c33
                      clear c33
                      by_cases c34 : x155003_1.length < 4398046511104
                      · rw [if_pos c34] at H
                        have LMc34 := Aside0.mk c34
                        clear c34
                        obtain ⟨y167, hy167⟩ : ∃ y_ : List (S73), y_ = (x155003_1 ++ [(⟨(rd_T73 l0_3 x4_1).f0, ((rd_T73 l0_3 x4_1).f1).extract 0 ((ji31) : Int).toNat, (rd_T73 l0_3 x4_1).f2⟩ : S73)]) := ⟨_, rfl⟩
                        replace H : (proofmarkref30_Few.l0 k1 (wrap64 (x4_1 + 1)) l0_0 l0_1 l0_2 l0_3 l0_4 y162 t142 t145 y167 t151) = some (r1, r2, r3, r4, r5) := by first | (rw [hy167]; with_reducible exact H)
                        have Ny167 := Aside0.mk hy167
                        clear hy167
                        have H' := Aside0.mk H
                        clear H
                        have hnb35 := NB137_138.out
                        have hnc35 := NB138_137.out
                        have hnb36 := NB137_154.out
                        have hnc36 := NB154_137.out
                        have hcz37_0 : wr.cell? ⟨gb137, 0, none⟩ = some (.slice A0_0 l0_0.length c0_0) := (blk_cell BK137.out 0).trans rfl
                        have hcz37_1 : wr.cell? ⟨gb137, 1, none⟩ = some (.slice A0_1 l0_1.length c0_1) := (blk_cell BK137.out 1).trans rfl
                        have hcz37_2 : wr.cell? ⟨gb137, 2, none⟩ = some (.slice A0_2 l0_2.length c0_2) := (blk_cell BK137.out 2).trans rfl
                        have hcz37_3 : wr.cell? ⟨gb137, 3, none⟩ = some (.slice A0_3 l0_3.length c0_3) := (blk_cell BK137.out 3).trans rfl
                        have hcz37_4 : wr.cell? ⟨gb137, 4, none⟩ = some (.slice A0_4 l0_4.length c0_4) := (blk_cell BK137.out 4).trans rfl
                        have hfz37_0 := blk_frozen BK137.out 0
                        have hfz37_1 := blk_frozen BK137.out 1
                        have hfz37_2 := blk_frozen BK137.out 2
                        have hfz37_3 := blk_frozen BK137.out 3
                        have hfz37_4 := blk_frozen BK137.out 4
                        have p165 : 0 ≤ (x4_1 : Int) := of_decide_eq_true (by first | (with_reducible assumption))
                        have q165 : x4_1 < (l0_3.length : Int) := of_decide_eq_true (by first | (with_reducible assumption))
                        obtain ⟨ad165, e165, hx165_0, hx165_1, hx165_2⟩ := at_T73 HR0_3.out x4_1 p165 q165
                        cases e165
                        replace hx165_0 := (HB.out.cell (World.block_lt_of_cell? w _ hx165_0)).trans hx165_0
                        replace hx165_1 := (HB.out.cell (World.block_lt_of_cell? w _ hx165_1)).trans hx165_1
                        replace hx165_2 := (HB.out.cell (World.block_lt_of_cell? w _ hx165_2)).trans hx165_2
                        replace p165 := eq_true p165
                        replace q165 := eq_true q165
                        go_wp2_with (first | ((with_reducible refine gate_dst (N := 5) rfl ?_); refine box_event ?hg (N := 5) ?hd (cs := #[.int .i64 0, .string (⟨#[]⟩ : ByteArray), .int .i64 0]) (t := 73) ?hr ?_; (case hd => rfl); (case hg => rfl); (case hr => first | (go_simp; done)); intro gb166 hg w38 hbox hb; have n0_ := Aside0.mk (Kd.R_below HO_155000.out hb); have n1_ := Aside0.mk (Kd.R_below HO_155001.out hb); have n2_ := Aside0.mk (Kd.R_below HO_155002.out hb); have n3_ := Aside0.mk (Kd.R_below (Kd.R_elderB HO_155003.out gb166 (Nat.le_of_eq hg.symm)) hb); have n4_ := Aside0.mk (Kd.R_below HO_155004.out hb); have n5_ := Aside0.mk (blk_below BK137.out hb); have n6_ := Aside0.mk (blk_below BK138.out hb); have n7_ := Aside0.mk (blk_below BK154.out hb); have n8_ := Aside0.mk (below_step HB.out hb); have n9_ := Aside0.mk (hbox); have n10_ := Aside0.mk ((by rw [hg]; exact (below_size HB.out) : w.heap.size ≤ gb166)); have n11_ := Aside0.mk ((by rw [hg]; exact (below_size HB.out) : w.heap.size ≤ gb166)); have n12_ := Aside0.mk ((by rw [hg]; exact Nat.ne_of_lt (blk_lt BK137.out) : gb137 ≠ gb166)); have n13_ := Aside0.mk ((by rw [hg]; exact Nat.ne_of_gt (blk_lt BK137.out) : gb166 ≠ gb137)); have n14_ := Aside0.mk ((by rw [hg]; exact Nat.ne_of_lt (blk_lt BK138.out) : gb138 ≠ gb166)); have n15_ := Aside0.mk ((by rw [hg]; exact Nat.ne_of_gt (blk_lt BK138.out) : gb166 ≠ gb138)); have n16_ := Aside0.mk ((by rw [hg]; exact Nat.ne_of_lt (blk_lt BK154.out) : gb154 ≠ gb166)); have n17_ := Aside0.mk ((by rw [hg]; exact Nat.ne_of_gt (blk_lt BK154.out) : gb166 ≠ gb154)); clear HO_155000; clear HO_155001; clear HO_155002; clear HO_155003; clear HO_155004; clear BK137; clear BK138; clear BK154; clear HB; have HO_155000 := n0_; have HO_155001 := n1_; have HO_155002 := n2_; have HO_155003 := n3_; have HO_155004 := n4_; have BK137 := n5_; have BK138 := n6_; have BK154 := n7_; have HB := n8_; have BK166 := n9_; have GW166 := n10_; have GE166 := n11_; have NB137_166 := n12_; have NB166_137 := n13_; have NB138_166 := n14_; have NB166_138 := n15_; have NB154_166 := n16_; have NB166_154 := n17_; clear n0_ n1_ n2_ n3_ n4_ n5_ n6_ n7_ n8_ n9_ n10_ n11_ n12_ n13_ n14_ n15_ n16_ n17_; clear hb hbox hg; have hnb39 := NB166_137.out; have hnc39 := NB137_166.out; have hnb40 := NB166_138.out; have hnc40 := NB138_166.out; have hnb41 := NB166_154.out; have hnc41 := NB154_166.out; have hcz42_0 : w38.cell? ⟨gb166, 0, none⟩ = some (.int .i64 0) := (blk_cell BK166.out 0).trans rfl; have hcz42_1 : w38.cell? ⟨gb166, 1, none⟩ = some (.string (⟨#[]⟩ : ByteArray)) := (blk_cell BK166.out 1).trans rfl; have hcz42_2 : w38.cell? ⟨gb166, 2, none⟩ = some (.int .i64 0) := (blk_cell BK166.out 2).trans rfl; have hfz42_0 := blk_frozen BK166.out 0; have hfz42_1 := blk_frozen BK166.out 1; have hfz42_2 := blk_frozen BK166.out 2; have hQ_ := set4 (b0 := .int .i64 (rd_T73 l0_3 x4_1).f0) (b1 := .string (rd_T73 l0_3 x4_1).f1) (b2 := .int .i64 (rd_T73 l0_3 x4_1).f2) (b3 := .string ((rd_T73 l0_3 x4_1).f1.extract 0 ji31.toNat)) BK166.out; have hQ0 := hQ_.1; have hQ1 := hQ_.2.1; have hQ2 := hQ_.2.2; clear hQ_; have hnb43 := NB154_138.out; have hnc43 := NB138_154.out; have hcz44_0 : w38.cell? ⟨gb154, 0, none⟩ = some (.slice Ao26 y162.length co26) := (blk_cell BK154.out 0).trans rfl; have hcz44_1 : w38.cell? ⟨gb154, 1, none⟩ = some (.slice Ao17 t142.length co17) := (blk_cell BK154.out 1).trans rfl; have hcz44_2 : w38.cell? ⟨gb154, 2, none⟩ = some (.slice Ao18 t145.length co18) := (blk_cell BK154.out 2).trans rfl; have hcz44_3 : w38.cell? ⟨gb154, 3, none⟩ = some (u155003) := (blk_cell BK154.out 3).trans rfl; have hcz44_4 : w38.cell? ⟨gb154, 4, none⟩ = some (.slice Ao20 t151.length co20) := (blk_cell BK154.out 4).trans rfl; have hfz44_0 := blk_frozen BK154.out 0; have hfz44_1 := blk_frozen BK154.out 1; have hfz44_2 := blk_frozen BK154.out 2; have hfz44_3 := blk_frozen BK154.out 3; have hfz44_4 := blk_frozen BK154.out 4) | ((with_reducible refine gate_builtin (b := .append) (xs := #[.tmp 43, .tmp 45]) rfl ?_); at_builtin; refine Kd.R_append k73 (w0 := w) w.heap.size rfl (.tmp 43) (.tmp 45) 25 73 (.agg #[(.int .i64 0), (.string ⟨#[]⟩), (.int .i64 0)]) 32 rfl Tryd.underlying25 info73 rfl (by decide) (by omega) u155003 x155003_1 (⟨(rd_T73 l0_3 x4_1).f0, ((rd_T73 l0_3 x4_1).f1).extract 0 ((ji31) : Int).toNat, (rd_T73 l0_3 x4_1).f2⟩ : S73) [.int .i64 ((rd_T73 l0_3 x4_1).f0), .string (((rd_T73 l0_3 x4_1).f1).extract 0 ((ji31) : Int).toNat), .int .i64 ((rd_T73 l0_3 x4_1).f2)] (fun k_ => k_ ≠ gb166) (fun _ => False) rfl (by first | (go_simp; done)) ?aP (fun _ hk => hk.elim) ?aF ?aO ?aB ?aS ?aL ?_; (case aP => exact k73_mkM _ _ _ (⟨(rd_T73 l0_3 x4_1).f0, ((rd_T73 l0_3 x4_1).f1).extract 0 ((ji31) : Int).toNat, (rd_T73 l0_3 x4_1).f2⟩ : S73)); (case aB => exact (by repeat (first | (with_reducible first | exact HB.out | refine below_set ?_ GE166.out)))); (case aF => exact (fun k_ hk => Kd.freshB (g := gb166) (o := .cells #[.int .i64 ((rd_T73 l0_3 x4_1).f0), .string (((rd_T73 l0_3 x4_1).f1).extract 0 ((ji31) : Int).toNat), .int .i64 ((rd_T73 l0_3 x4_1).f2)] 73 (0, 0)) (by refine blk_put (cs := #[.int .i64 ((rd_T73 l0_3 x4_1).f0), .string ((rd_T73 l0_3 x4_1).f1), .int .i64 ((rd_T73 l0_3 x4_1).f2)]) ?_ 1 _ rfl; refine blk_put (cs := #[.int .i64 ((rd_T73 l0_3 x4_1).f0), .string ((rd_T73 l0_3 x4_1).f1), .int .i64 0]) ?_ 2 _ rfl; refine blk_put (cs := #[.int .i64 ((rd_T73 l0_3 x4_1).f0), .string (⟨#[]⟩ : ByteArray), .int .i64 0]) ?_ 1 _ rfl; refine blk_put (cs := #[.int .i64 0, .string (⟨#[]⟩ : ByteArray), .int .i64 0]) ?_ 0 _ rfl; exact BK166.out) k_ hk)); (case aO => exact (by exact Kd.R_mono (Kd.R_far (p := ⟨gb166, 1, none⟩) (Kd.R_far (p := ⟨gb166, 2, none⟩) (Kd.R_far (p := ⟨gb166, 1, none⟩) (Kd.R_far (p := ⟨gb166, 0, none⟩) (Kd.R_mono HO_155003.out (fun k_ hk => (⟨hk, hk.2⟩ : _ ∧ k_ ≠ gb166))) (fun _ hk => hk.2) (.int .i64 ((rd_T73 l0_3 x4_1).f0))) (fun _ hk => hk.2) (.string ((rd_T73 l0_3 x4_1).f1))) (fun _ hk => hk.2) (.int .i64 ((rd_T73 l0_3 x4_1).f2))) (fun _ hk => hk.2) (.string (((rd_T73 l0_3 x4_1).f1).extract 0 ((ji31) : Int).toNat))) (fun _ hk => hk.1.2))); (case aS => exact (below_size (by repeat (first | (with_reducible first | exact HB.out | refine below_set ?_ GE166.out))))); (case aL => have := LMc34.out; omega); intro v168 w45 ho hb hg hat; rw [← Ny167.out] at ho; have n0_ := Aside0.mk (Kd.R_over' (by exact (Kd.R_mono (Kd.R_far (p := ⟨gb166, 1, none⟩) (Kd.R_far (p := ⟨gb166, 2, none⟩) (Kd.R_far (p := ⟨gb166, 1, none⟩) (Kd.R_far (p := ⟨gb166, 0, none⟩) (Kd.R_types HO_155000.out BK166.out (by decide)) (fun _ hk => hk.2) (.int .i64 ((rd_T73 l0_3 x4_1).f0))) (fun _ hk => hk.2) (.string ((rd_T73 l0_3 x4_1).f1))) (fun _ hk => hk.2) (.int .i64 ((rd_T73 l0_3 x4_1).f2))) (fun _ hk => hk.2) (.string (((rd_T73 l0_3 x4_1).f1).extract 0 ((ji31) : Int).toNat))) (fun _ h_ => h_.1))) (Kd.R_typed (by exact (Kd.R_mono (Kd.R_far (p := ⟨gb166, 1, none⟩) (Kd.R_far (p := ⟨gb166, 2, none⟩) (Kd.R_far (p := ⟨gb166, 1, none⟩) (Kd.R_far (p := ⟨gb166, 0, none⟩) (Kd.R_mono HO_155003.out (fun k_ hk => (⟨hk, hk.2⟩ : _ ∧ k_ ≠ gb166))) (fun _ hk => hk.2) (.int .i64 ((rd_T73 l0_3 x4_1).f0))) (fun _ hk => hk.2) (.string ((rd_T73 l0_3 x4_1).f1))) (fun _ hk => hk.2) (.int .i64 ((rd_T73 l0_3 x4_1).f2))) (fun _ hk => hk.2) (.string (((rd_T73 l0_3 x4_1).f1).extract 0 ((ji31) : Int).toNat))) (fun _ h_ => h_.1)))) (by decide) hg); have n1_ := Aside0.mk (Kd.R_over' (by exact (Kd.R_mono (Kd.R_far (p := ⟨gb166, 1, none⟩) (Kd.R_far (p := ⟨gb166, 2, none⟩) (Kd.R_far (p := ⟨gb166, 1, none⟩) (Kd.R_far (p := ⟨gb166, 0, none⟩) (Kd.R_types HO_155001.out BK166.out (by decide)) (fun _ hk => hk.2) (.int .i64 ((rd_T73 l0_3 x4_1).f0))) (fun _ hk => hk.2) (.string ((rd_T73 l0_3 x4_1).f1))) (fun _ hk => hk.2) (.int .i64 ((rd_T73 l0_3 x4_1).f2))) (fun _ hk => hk.2) (.string (((rd_T73 l0_3 x4_1).f1).extract 0 ((ji31) : Int).toNat))) (fun _ h_ => h_.1))) (Kd.R_typed (by exact (Kd.R_mono (Kd.R_far (p := ⟨gb166, 1, none⟩) (Kd.R_far (p := ⟨gb166, 2, none⟩) (Kd.R_far (p := ⟨gb166, 1, none⟩) (Kd.R_far (p := ⟨gb166, 0, none⟩) (Kd.R_mono HO_155003.out (fun k_ hk => (⟨hk, hk.2⟩ : _ ∧ k_ ≠ gb166))) (fun _ hk => hk.2) (.int .i64 ((rd_T73 l0_3 x4_1).f0))) (fun _ hk => hk.2) (.string ((rd_T73 l0_3 x4_1).f1))) (fun _ hk => hk.2) (.int .i64 ((rd_T73 l0_3 x4_1).f2))) (fun _ hk => hk.2) (.string (((rd_T73 l0_3 x4_1).f1).extract 0 ((ji31) : Int).toNat))) (fun _ h_ => h_.1)))) (by decide) hg); have n2_ := Aside0.mk (Kd.R_over' (by exact (Kd.R_mono (Kd.R_far (p := ⟨gb166, 1, none⟩) (Kd.R_far (p := ⟨gb166, 2, none⟩) (Kd.R_far (p := ⟨gb166, 1, none⟩) (Kd.R_far (p := ⟨gb166, 0, none⟩) (Kd.R_types HO_155002.out BK166.out (by decide)) (fun _ hk => hk.2) (.int .i64 ((rd_T73 l0_3 x4_1).f0))) (fun _ hk => hk.2) (.string ((rd_T73 l0_3 x4_1).f1))) (fun _ hk => hk.2) (.int .i64 ((rd_T73 l0_3 x4_1).f2))) (fun _ hk => hk.2) (.string (((rd_T73 l0_3 x4_1).f1).extract 0 ((ji31) : Int).toNat))) (fun _ h_ => h_.1))) (Kd.R_typed (by exact (Kd.R_mono (Kd.R_far (p := ⟨gb166, 1, none⟩) (Kd.R_far (p := ⟨gb166, 2, none⟩) (Kd.R_far (p := ⟨gb166, 1, none⟩) (Kd.R_far (p := ⟨gb166, 0, none⟩) (Kd.R_mono HO_155003.out (fun k_ hk => (⟨hk, hk.2⟩ : _ ∧ k_ ≠ gb166))) (fun _ hk => hk.2) (.int .i64 ((rd_T73 l0_3 x4_1).f0))) (fun _ hk => hk.2) (.string ((rd_T73 l0_3 x4_1).f1))) (fun _ hk => hk.2) (.int .i64 ((rd_T73 l0_3 x4_1).f2))) (fun _ hk => hk.2) (.string (((rd_T73 l0_3 x4_1).f1).extract 0 ((ji31) : Int).toNat))) (fun _ h_ => h_.1)))) (by decide) hg); have n3_ := Aside0.mk (Kd.R_over' (by exact (Kd.R_mono (Kd.R_far (p := ⟨gb166, 1, none⟩) (Kd.R_far (p := ⟨gb166, 2, none⟩) (Kd.R_far (p := ⟨gb166, 1, none⟩) (Kd.R_far (p := ⟨gb166, 0, none⟩) (Kd.R_types HO_155004.out BK166.out (by decide)) (fun _ hk => hk.2) (.int .i64 ((rd_T73 l0_3 x4_1).f0))) (fun _ hk => hk.2) (.string ((rd_T73 l0_3 x4_1).f1))) (fun _ hk => hk.2) (.int .i64 ((rd_T73 l0_3 x4_1).f2))) (fun _ hk => hk.2) (.string (((rd_T73 l0_3 x4_1).f1).extract 0 ((ji31) : Int).toNat))) (fun _ h_ => h_.1))) (Kd.R_typed (by exact (Kd.R_mono (Kd.R_far (p := ⟨gb166, 1, none⟩) (Kd.R_far (p := ⟨gb166, 2, none⟩) (Kd.R_far (p := ⟨gb166, 1, none⟩) (Kd.R_far (p := ⟨gb166, 0, none⟩) (Kd.R_mono HO_155003.out (fun k_ hk => (⟨hk, hk.2⟩ : _ ∧ k_ ≠ gb166))) (fun _ hk => hk.2) (.int .i64 ((rd_T73 l0_3 x4_1).f0))) (fun _ hk => hk.2) (.string ((rd_T73 l0_3 x4_1).f1))) (fun _ hk => hk.2) (.int .i64 ((rd_T73 l0_3 x4_1).f2))) (fun _ hk => hk.2) (.string (((rd_T73 l0_3 x4_1).f1).extract 0 ((ji31) : Int).toNat))) (fun _ h_ => h_.1)))) (by decide) hg); have n4_ := Aside0.mk (blk_grown (g := gb137) (o := .cells #[.slice A0_0 l0_0.length c0_0, .slice A0_1 l0_1.length c0_1, .slice A0_2 l0_2.length c0_2, .slice (some ad165) l0_3.length c0_3, .slice A0_4 l0_4.length c0_4] 27 (0, 0)) (by refine blk_far ?_ NB137_166.out _; refine blk_far ?_ NB137_166.out _; refine blk_far ?_ NB137_166.out _; refine blk_far ?_ NB137_166.out _; exact BK137.out) hg (Kd.R_ne HO_155003.out BK137.out (by decide))); have n5_ := Aside0.mk (blk_grown (g := gb138) (o := .cells #[.slice none 0 0, .slice none 0 0, .slice none 0 0, .slice none 0 0, .slice none 0 0] 27 (0, 0)) (by refine blk_far ?_ NB138_166.out _; refine blk_far ?_ NB138_166.out _; refine blk_far ?_ NB138_166.out _; refine blk_far ?_ NB138_166.out _; exact BK138.out) hg (Kd.R_ne HO_155003.out BK138.out (by decide))); have n6_ := Aside0.mk (blk_grown (g := gb154) (o := .cells #[.slice Ao26 y162.length co26, .slice Ao17 t142.length co17, .slice Ao18 t145.length co18, u155003, .slice Ao20 t151.length co20] 27 (0, 0)) (by refine blk_far ?_ NB154_166.out _; refine blk_far ?_ NB154_166.out _; refine blk_far ?_ NB154_166.out _; refine blk_far ?_ NB154_166.out _; exact BK154.out) hg (Kd.R_ne HO_155003.out BK154.out (by decide))); have n7_ := Aside0.mk (blk_grown (g := gb166) (o := .cells #[.int .i64 ((rd_T73 l0_3 x4_1).f0), .string (((rd_T73 l0_3 x4_1).f1).extract 0 ((ji31) : Int).toNat), .int .i64 ((rd_T73 l0_3 x4_1).f2)] 73 (0, 0)) (by refine blk_put (cs := #[.int .i64 ((rd_T73 l0_3 x4_1).f0), .string ((rd_T73 l0_3 x4_1).f1), .int .i64 ((rd_T73 l0_3 x4_1).f2)]) ?_ 1 _ rfl; refine blk_put (cs := #[.int .i64 ((rd_T73 l0_3 x4_1).f0), .string ((rd_T73 l0_3 x4_1).f1), .int .i64 0]) ?_ 2 _ rfl; refine blk_put (cs := #[.int .i64 ((rd_T73 l0_3 x4_1).f0), .string (⟨#[]⟩ : ByteArray), .int .i64 0]) ?_ 1 _ rfl; refine blk_put (cs := #[.int .i64 0, .string (⟨#[]⟩ : ByteArray), .int .i64 0]) ?_ 0 _ rfl; exact BK166.out) hg (Kd.R_away HO_155003.out (fun _ hk => hk.2))); have n8_ := Aside0.mk (hb); have n9_ := Aside0.mk (ho); clear HO_155000; clear HO_155001; clear HO_155002; clear HO_155004; clear BK137; clear BK138; clear BK154; clear BK166; clear HB; clear HO_155003; have HO_155000 := n0_; have HO_155001 := n1_; have HO_155002 := n2_; have HO_155004 := n3_; have BK137 := n4_; have BK138 := n5_; have BK154 := n6_; have BK166 := n7_; have HB := n8_; have HO169 := n9_; clear n0_ n1_ n2_ n3_ n4_ n5_ n6_ n7_ n8_ n9_; clear ho hb hg hat; obtain ⟨Ao46, co46, eo46⟩ := Kd.R_slice HO169.out; subst eo46; have hcz47_0 : w45.cell? ⟨gb154, 0, none⟩ = some (.slice Ao26 y162.length co26) := (blk_cell BK154.out 0).trans rfl; have hcz47_1 : w45.cell? ⟨gb154, 1, none⟩ = some (.slice Ao17 t142.length co17) := (blk_cell BK154.out 1).trans rfl; have hcz47_2 : w45.cell? ⟨gb154, 2, none⟩ = some (.slice Ao18 t145.length co18) := (blk_cell BK154.out 2).trans rfl; have hcz47_3 : w45.cell? ⟨gb154, 3, none⟩ = some (u155003) := (blk_cell BK154.out 3).trans rfl; have hcz47_4 : w45.cell? ⟨gb154, 4, none⟩ = some (.slice Ao20 t151.length co20) := (blk_cell BK154.out 4).trans rfl; have hfz47_0 := blk_frozen BK154.out 0; have hfz47_1 := blk_frozen BK154.out 1; have hfz47_2 := blk_frozen BK154.out 2; have hfz47_3 := blk_frozen BK154.out 3; have hfz47_4 := blk_frozen BK154.out 4))
                        go_roundg k1
                        case measure => have := HK1.out; omega
                        case rel => exact ⟨(wrap64 (x4_1 + 1)), (y167), (.slice Ao46 y167.length co46), rfl, H', ⟨by have := HK1.out; omega⟩, ⟨by exact Kd.R_mono (Kd.R_far (p := ⟨gb154, 3, none⟩) (Kd.R_types HO_155000.out BK154.out (by decide)) (fun _ hk => hk.2) (.slice Ao46 y167.length co46)) (fun _ hk => trivial)⟩, ⟨by exact Kd.R_mono (Kd.R_far (p := ⟨gb154, 3, none⟩) (Kd.R_types HO_155001.out BK154.out (by decide)) (fun _ hk => hk.2) (.slice Ao46 y167.length co46)) (fun _ hk => hk.1)⟩, ⟨by exact Kd.R_mono (Kd.R_far (p := ⟨gb154, 3, none⟩) (Kd.R_types HO_155002.out BK154.out (by decide)) (fun _ hk => hk.2) (.slice Ao46 y167.length co46)) (fun _ hk => trivial)⟩, ⟨by exact Kd.R_mono (Kd.R_far (p := ⟨gb154, 3, none⟩) (Kd.R_types HO169.out BK154.out (by decide)) (fun _ hk => hk.2) (.slice Ao46 y167.length co46)) (fun _ hk => trivial)⟩, ⟨by exact Kd.R_mono (Kd.R_far (p := ⟨gb154, 3, none⟩) (Kd.R_types HO_155004.out BK154.out (by decide)) (fun _ hk => hk.2) (.slice Ao46 y167.length co46)) (fun _ hk => hk.1)⟩, ⟨by refine blk_far ?_ NB137_154.out _; exact BK137.out⟩, ⟨by refine blk_far ?_ NB138_154.out _; exact BK138.out⟩, ⟨by refine blk_put (cs := #[.slice Ao26 y162.length co26, .slice Ao17 t142.length co17, .slice Ao18 t145.length co18, u155003, .slice Ao20 t151.length co20]) ?_ 3 _ rfl; exact BK154.out⟩, ⟨by repeat (first | (with_reducible first | exact HB.out | refine below_set ?_ GE154.out))⟩⟩
                      · rw [if_neg c34] at H
                        exact absurd H (by simp)
                    · rw [if_neg c33] at H
                      exact absurd H (by simp)
                  · rw [if_neg c32] at H
                    exact absurd H (by simp)
                · rw [if_neg c30] at H
                  exact absurd H (by simp)
              · rw [if_neg c29] at H
                have c29b0 : decide (x4_1 < 40) = false := decide_eq_false c29
                clear c29
                simp only [Option.some.injEq, Prod.mk.injEq] at H
                obtain ⟨rfl, rfl, rfl, rfl, rfl⟩ := H
                have hnb48 := NB137_138.out
                have hnc48 := NB138_137.out
                have hnb49 := NB137_154.out
                have hnc49 := NB154_137.out
                have hcz50_0 : wr.cell? ⟨gb137, 0, none⟩ = some (.slice A0_0 l0_0.length c0_0) := (blk_cell BK137.out 0).trans rfl
                have hcz50_1 : wr.cell? ⟨gb137, 1, none⟩ = some (.slice A0_1 l0_1.length c0_1) := (blk_cell BK137.out 1).trans rfl
                have hcz50_2 : wr.cell? ⟨gb137, 2, none⟩ = some (.slice A0_2 l0_2.length c0_2) := (blk_cell BK137.out 2).trans rfl
                have hcz50_3 : wr.cell? ⟨gb137, 3, none⟩ = some (.slice A0_3 l0_3.length c0_3) := (blk_cell BK137.out 3).trans rfl
                have hcz50_4 : wr.cell? ⟨gb137, 4, none⟩ = some (.slice A0_4 l0_4.length c0_4) := (blk_cell BK137.out 4).trans rfl
                have hfz50_0 := blk_frozen BK137.out 0
                have hfz50_1 := blk_frozen BK137.out 1
                have hfz50_2 := blk_frozen BK137.out 2
                have hfz50_3 := blk_frozen BK137.out 3
                have hfz50_4 := blk_frozen BK137.out 4
                have hnb51 := NB154_138.out
                have hnc51 := NB138_154.out
                have hcz52_0 : wr.cell? ⟨gb154, 0, none⟩ = some (.slice Ao26 y162.length co26) := (blk_cell BK154.out 0).trans rfl
                have hcz52_1 : wr.cell? ⟨gb154, 1, none⟩ = some (.slice Ao17 t142.length co17) := (blk_cell BK154.out 1).trans rfl
                have hcz52_2 : wr.cell? ⟨gb154, 2, none⟩ = some (.slice Ao18 t145.length co18) := (blk_cell BK154.out 2).trans rfl
                have hcz52_3 : wr.cell? ⟨gb154, 3, none⟩ = some (u155003) := (blk_cell BK154.out 3).trans rfl
                have hcz52_4 : wr.cell? ⟨gb154, 4, none⟩ = some (.slice Ao20 t151.length co20) := (blk_cell BK154.out 4).trans rfl
                have hfz52_0 := blk_frozen BK154.out 0
                have hfz52_1 := blk_frozen BK154.out 1
                have hfz52_2 := blk_frozen BK154.out 2
                have hfz52_3 := blk_frozen BK154.out 3
                have hfz52_4 := blk_frozen BK154.out 4
                have hcz53_0 : wr.cell? ⟨gb138, 0, none⟩ = some (.slice none 0 0) := (blk_cell BK138.out 0).trans rfl
                have hcz53_1 : wr.cell? ⟨gb138, 1, none⟩ = some (.slice none 0 0) := (blk_cell BK138.out 1).trans rfl
                have hcz53_2 : wr.cell? ⟨gb138, 2, none⟩ = some (.slice none 0 0) := (blk_cell BK138.out 2).trans rfl
                have hcz53_3 : wr.cell? ⟨gb138, 3, none⟩ = some (.slice none 0 0) := (blk_cell BK138.out 3).trans rfl
                have hcz53_4 : wr.cell? ⟨gb138, 4, none⟩ = some (.slice none 0 0) := (blk_cell BK138.out 4).trans rfl
                have hfz53_0 := blk_frozen BK138.out 0
                have hfz53_1 := blk_frozen BK138.out 1
                have hfz53_2 := blk_frozen BK138.out 2
                have hfz53_3 := blk_frozen BK138.out 3
                have hfz53_4 := blk_frozen BK138.out 4
                obtain ⟨Ao54, co54, eo54⟩ := Kd.R_slice HO_155003.out
                subst eo54
                go_wp2
                refine bodyPost_ret (results_cell_row rfl _ _ gb138 27 #[.slice Ao26 y162.length co26, .slice Ao17 t142.length co17, .slice Ao18 t145.length co18, .slice Ao54 x155003_1.length co54, .slice Ao20 t151.length co20] (0, 0) _ rfl (by refine blk_put (cs := #[.slice Ao26 y162.length co26, .slice Ao17 t142.length co17, .slice Ao18 t145.length co18, .slice Ao54 x155003_1.length co54, .slice none 0 0]) ?_ 4 _ rfl; refine blk_put (cs := #[.slice Ao26 y162.length co26, .slice Ao17 t142.length co17, .slice Ao18 t145.length co18, .slice none 0 0, .slice none 0 0]) ?_ 3 _ rfl; refine blk_put (cs := #[.slice Ao26 y162.length co26, .slice Ao17 t142.length co17, .slice none 0 0, .slice none 0 0, .slice none 0 0]) ?_ 2 _ rfl; refine blk_put (cs := #[.slice Ao26 y162.length co26, .slice none 0 0, .slice none 0 0, .slice none 0 0, .slice none 0 0]) ?_ 1 _ rfl; refine blk_put (cs := #[.slice none 0 0, .slice none 0 0, .slice none 0 0, .slice none 0 0, .slice none 0 0]) ?_ 0 _ rfl; exact BK138.out) Tryd.underlying27 rfl (by kernel_rfl)) rfl ?_
                exact ⟨_, _, _, _, _, by first | rfl, by exact Kd.R_mono (Kd.R_far (p := ⟨gb138, 4, none⟩) (Kd.R_far (p := ⟨gb138, 3, none⟩) (Kd.R_far (p := ⟨gb138, 2, none⟩) (Kd.R_far (p := ⟨gb138, 1, none⟩) (Kd.R_far (p := ⟨gb138, 0, none⟩) (Kd.R_types HO_155000.out BK138.out (by decide)) (fun _ hk => hk.2) (.slice Ao26 y162.length co26)) (fun _ hk => hk.2) (.slice Ao17 t142.length co17)) (fun _ hk => hk.2) (.slice Ao18 t145.length co18)) (fun _ hk => hk.2) (.slice Ao54 x155003_1.length co54)) (fun _ hk => hk.2) (.slice Ao20 t151.length co20)) (fun _ hk => trivial), by exact Kd.R_mono (Kd.R_far (p := ⟨gb138, 4, none⟩) (Kd.R_far (p := ⟨gb138, 3, none⟩) (Kd.R_far (p := ⟨gb138, 2, none⟩) (Kd.R_far (p := ⟨gb138, 1, none⟩) (Kd.R_far (p := ⟨gb138, 0, none⟩) (Kd.R_types HO_155001.out BK138.out (by decide)) (fun _ hk => hk.2) (.slice Ao26 y162.length co26)) (fun _ hk => hk.2) (.slice Ao17 t142.length co17)) (fun _ hk => hk.2) (.slice Ao18 t145.length co18)) (fun _ hk => hk.2) (.slice Ao54 x155003_1.length co54)) (fun _ hk => hk.2) (.slice Ao20 t151.length co20)) (fun _ hk => hk.1), by exact Kd.R_mono (Kd.R_far (p := ⟨gb138, 4, none⟩) (Kd.R_far (p := ⟨gb138, 3, none⟩) (Kd.R_far (p := ⟨gb138, 2, none⟩) (Kd.R_far (p := ⟨gb138, 1, none⟩) (Kd.R_far (p := ⟨gb138, 0, none⟩) (Kd.R_types HO_155002.out BK138.out (by decide)) (fun _ hk => hk.2) (.slice Ao26 y162.length co26)) (fun _ hk => hk.2) (.slice Ao17 t142.length co17)) (fun _ hk => hk.2) (.slice Ao18 t145.length co18)) (fun _ hk => hk.2) (.slice Ao54 x155003_1.length co54)) (fun _ hk => hk.2) (.slice Ao20 t151.length co20)) (fun _ hk => trivial), by exact Kd.R_mono (Kd.R_far (p := ⟨gb138, 4, none⟩) (Kd.R_far (p := ⟨gb138, 3, none⟩) (Kd.R_far (p := ⟨gb138, 2, none⟩) (Kd.R_far (p := ⟨gb138, 1, none⟩) (Kd.R_far (p := ⟨gb138, 0, none⟩) (Kd.R_types HO_155003.out BK138.out (by decide)) (fun _ hk => hk.2) (.slice Ao26 y162.length co26)) (fun _ hk => hk.2) (.slice Ao17 t142.length co17)) (fun _ hk => hk.2) (.slice Ao18 t145.length co18)) (fun _ hk => hk.2) (.slice Ao54 x155003_1.length co54)) (fun _ hk => hk.2) (.slice Ao20 t151.length co20)) (fun _ hk => trivial), by exact Kd.R_mono (Kd.R_far (p := ⟨gb138, 4, none⟩) (Kd.R_far (p := ⟨gb138, 3, none⟩) (Kd.R_far (p := ⟨gb138, 2, none⟩) (Kd.R_far (p := ⟨gb138, 1, none⟩) (Kd.R_far (p := ⟨gb138, 0, none⟩) (Kd.R_types HO_155004.out BK138.out (by decide)) (fun _ hk => hk.2) (.slice Ao26 y162.length co26)) (fun _ hk => hk.2) (.slice Ao17 t142.length co17)) (fun _ hk => hk.2) (.slice Ao18 t145.length co18)) (fun _ hk => hk.2) (.slice Ao54 x155003_1.length co54)) (fun _ hk => hk.2) (.slice Ao20 t151.length co20)) (fun _ hk => hk.1), by repeat (first | (with_reducible first | exact HB.out | refine below_set ?_ GE138.out))⟩
            · rw [if_neg c28] at H
              have c28b0 : decide (x4_1 < (l0_3.length : Int)) = false := decide_eq_false c28
              clear c28
              simp only [Option.some.injEq, Prod.mk.injEq] at H
              obtain ⟨rfl, rfl, rfl, rfl, rfl⟩ := H
              have hnb55 := NB137_138.out
              have hnc55 := NB138_137.out
              have hnb56 := NB137_154.out
              have hnc56 := NB154_137.out
              have hcz57_0 : wr.cell? ⟨gb137, 0, none⟩ = some (.slice A0_0 l0_0.length c0_0) := (blk_cell BK137.out 0).trans rfl
              have hcz57_1 : wr.cell? ⟨gb137, 1, none⟩ = some (.slice A0_1 l0_1.length c0_1) := (blk_cell BK137.out 1).trans rfl
              have hcz57_2 : wr.cell? ⟨gb137, 2, none⟩ = some (.slice A0_2 l0_2.length c0_2) := (blk_cell BK137.out 2).trans rfl
              have hcz57_3 : wr.cell? ⟨gb137, 3, none⟩ = some (.slice A0_3 l0_3.length c0_3) := (blk_cell BK137.out 3).trans rfl
              have hcz57_4 : wr.cell? ⟨gb137, 4, none⟩ = some (.slice A0_4 l0_4.length c0_4) := (blk_cell BK137.out 4).trans rfl
              have hfz57_0 := blk_frozen BK137.out 0
              have hfz57_1 := blk_frozen BK137.out 1
              have hfz57_2 := blk_frozen BK137.out 2
              have hfz57_3 := blk_frozen BK137.out 3
              have hfz57_4 := blk_frozen BK137.out 4
              have hnb58 := NB154_138.out
              have hnc58 := NB138_154.out
              have hcz59_0 : wr.cell? ⟨gb154, 0, none⟩ = some (.slice Ao26 y162.length co26) := (blk_cell BK154.out 0).trans rfl
              have hcz59_1 : wr.cell? ⟨gb154, 1, none⟩ = some (.slice Ao17 t142.length co17) := (blk_cell BK154.out 1).trans rfl
              have hcz59_2 : wr.cell? ⟨gb154, 2, none⟩ = some (.slice Ao18 t145.length co18) := (blk_cell BK154.out 2).trans rfl
              have hcz59_3 : wr.cell? ⟨gb154, 3, none⟩ = some (u155003) := (blk_cell BK154.out 3).trans rfl
              have hcz59_4 : wr.cell? ⟨gb154, 4, none⟩ = some (.slice Ao20 t151.length co20) := (blk_cell BK154.out 4).trans rfl
              have hfz59_0 := blk_frozen BK154.out 0
              have hfz59_1 := blk_frozen BK154.out 1
              have hfz59_2 := blk_frozen BK154.out 2
              have hfz59_3 := blk_frozen BK154.out 3
              have hfz59_4 := blk_frozen BK154.out 4
              have hcz60_0 : wr.cell? ⟨gb138, 0, none⟩ = some (.slice none 0 0) := (blk_cell BK138.out 0).trans rfl
              have hcz60_1 : wr.cell? ⟨gb138, 1, none⟩ = some (.slice none 0 0) := (blk_cell BK138.out 1).trans rfl
              have hcz60_2 : wr.cell? ⟨gb138, 2, none⟩ = some (.slice none 0 0) := (blk_cell BK138.out 2).trans rfl
              have hcz60_3 : wr.cell? ⟨gb138, 3, none⟩ = some (.slice none 0 0) := (blk_cell BK138.out 3).trans rfl
              have hcz60_4 : wr.cell? ⟨gb138, 4, none⟩ = some (.slice none 0 0) := (blk_cell BK138.out 4).trans rfl
              have hfz60_0 := blk_frozen BK138.out 0
              have hfz60_1 := blk_frozen BK138.out 1
              have hfz60_2 := blk_frozen BK138.out 2
              have hfz60_3 := blk_frozen BK138.out 3
              have hfz60_4 := blk_frozen BK138.out 4
              obtain ⟨Ao61, co61, eo61⟩ := Kd.R_slice HO_155003.out
              subst eo61
              go_wp2
              refine bodyPost_ret (results_cell_row rfl _ _ gb138 27 #[.slice Ao26 y162.length co26, .slice Ao17 t142.length co17, .slice Ao18 t145.length co18, .slice Ao61 x155003_1.length co61, .slice Ao20 t151.length co20] (0, 0) _ rfl (by refine blk_put (cs := #[.slice Ao26 y162.length co26, .slice Ao17 t142.length co17, .slice Ao18 t145.length co18, .slice Ao61 x155003_1.length co61, .slice none 0 0]) ?_ 4 _ rfl; refine blk_put (cs := #[.slice Ao26 y162.length co26, .slice Ao17 t142.length co17, .slice Ao18 t145.length co18, .slice none 0 0, .slice none 0 0]) ?_ 3 _ rfl; refine blk_put (cs := #[.slice Ao26 y162.length co26, .slice Ao17 t142.length co17, .slice none 0 0, .slice none 0 0, .slice none 0 0]) ?_ 2 _ rfl; refine blk_put (cs := #[.slice Ao26 y162.length co26, .slice none 0 0, .slice none 0 0, .slice none 0 0, .slice none 0 0]) ?_ 1 _ rfl; refine blk_put (cs := #[.slice none 0 0, .slice none 0 0, .slice none 0 0, .slice none 0 0, .slice none 0 0]) ?_ 0 _ rfl; exact BK138.out) Tryd.underlying27 rfl (by kernel_rfl)) rfl ?_
              exact ⟨_, _, _, _, _, by first | rfl, by exact Kd.R_mono (Kd.R_far (p := ⟨gb138, 4, none⟩) (Kd.R_far (p := ⟨gb138, 3, none⟩) (Kd.R_far (p := ⟨gb138, 2, none⟩) (Kd.R_far (p := ⟨gb138, 1, none⟩) (Kd.R_far (p := ⟨gb138, 0, none⟩) (Kd.R_types HO_155000.out BK138.out (by decide)) (fun _ hk => hk.2) (.slice Ao26 y162.length co26)) (fun _ hk => hk.2) (.slice Ao17 t142.length co17)) (fun _ hk => hk.2) (.slice Ao18 t145.length co18)) (fun _ hk => hk.2) (.slice Ao61 x155003_1.length co61)) (fun _ hk => hk.2) (.slice Ao20 t151.length co20)) (fun _ hk => trivial), by exact Kd.R_mono (Kd.R_far (p := ⟨gb138, 4, none⟩) (Kd.R_far (p := ⟨gb138, 3, none⟩) (Kd.R_far (p := ⟨gb138, 2, none⟩) (Kd.R_far (p := ⟨gb138, 1, none⟩) (Kd.R_far (p := ⟨gb138, 0, none⟩) (Kd.R_types HO_155001.out BK138.out (by decide)) (fun _ hk => hk.2) (.slice Ao26 y162.length co26)) (fun _ hk => hk.2) (.slice Ao17 t142.length co17)) (fun _ hk => hk.2) (.slice Ao18 t145.length co18)) (fun _ hk => hk.2) (.slice Ao61 x155003_1.length co61)) (fun _ hk => hk.2) (.slice Ao20 t151.length co20)) (fun _ hk => hk.1), by exact Kd.R_mono (Kd.R_far (p := ⟨gb138, 4, none⟩) (Kd.R_far (p := ⟨gb138, 3, none⟩) (Kd.R_far (p := ⟨gb138, 2, none⟩) (Kd.R_far (p := ⟨gb138, 1, none⟩) (Kd.R_far (p := ⟨gb138, 0, none⟩) (Kd.R_types HO_155002.out BK138.out (by decide)) (fun _ hk => hk.2) (.slice Ao26 y162.length co26)) (fun _ hk => hk.2) (.slice Ao17 t142.length co17)) (fun _ hk => hk.2) (.slice Ao18 t145.length co18)) (fun _ hk => hk.2) (.slice Ao61 x155003_1.length co61)) (fun _ hk => hk.2) (.slice Ao20 t151.length co20)) (fun _ hk => trivial), by exact Kd.R_mono (Kd.R_far (p := ⟨gb138, 4, none⟩) (Kd.R_far (p := ⟨gb138, 3, none⟩) (Kd.R_far (p := ⟨gb138, 2, none⟩) (Kd.R_far (p := ⟨gb138, 1, none⟩) (Kd.R_far (p := ⟨gb138, 0, none⟩) (Kd.R_types HO_155003.out BK138.out (by decide)) (fun _ hk => hk.2) (.slice Ao26 y162.length co26)) (fun _ hk => hk.2) (.slice Ao17 t142.length co17)) (fun _ hk => hk.2) (.slice Ao18 t145.length co18)) (fun _ hk => hk.2) (.slice Ao61 x155003_1.length co61)) (fun _ hk => hk.2) (.slice Ao20 t151.length co20)) (fun _ hk => trivial), by exact Kd.R_mono (Kd.R_far (p := ⟨gb138, 4, none⟩) (Kd.R_far (p := ⟨gb138, 3, none⟩) (Kd.R_far (p := ⟨gb138, 2, none⟩) (Kd.R_far (p := ⟨gb138, 1, none⟩) (Kd.R_far (p := ⟨gb138, 0, none⟩) (Kd.R_types HO_155004.out BK138.out (by decide)) (fun _ hk => hk.2) (.slice Ao26 y162.length co26)) (fun _ hk => hk.2) (.slice Ao17 t142.length co17)) (fun _ hk => hk.2) (.slice Ao18 t145.length co18)) (fun _ hk => hk.2) (.slice Ao61 x155003_1.length co61)) (fun _ hk => hk.2) (.slice Ao20 t151.length co20)) (fun _ hk => hk.1), by repeat (first | (with_reducible first | exact HB.out | refine below_set ?_ GE138.out))⟩
      · rw [if_neg c6] at H
        exact absurd H (by simp)
    · rw [if_neg c5] at H
      exact absurd H (by simp)
  · rw [if_neg c4] at H
    exact absurd H (by simp)

/-! ### proofmarkref27_Rows: function 28 -/
def proofmarkref27_Rows.l0 : Nat → List (List Int) → List (List Int) → Int → Option ((List (List Int)))
  | 0, _, _, _ => none
  | k + 1, x0, x3, x4 => if x4 < (x0.length : Int) then (if x4 < 30 then ((some (([] : List Int) : List Int)).bind fun y173 => (if 0 ≤ x4 then (if 0 ≤ (mn ((rd_L23 x0 x4).length : Int) 24) then (if (mn ((rd_L23 x0 x4).length : Int) 24) ≤ ((rd_L23 x0 x4).length : Int) then (if y173.length + ((rd_L23 x0 x4).take ((mn ((rd_L23 x0 x4).length : Int) 24) : Int).toNat).length < 17592186044416 then (if x3.length < 5864062014805 then (proofmarkref27_Rows.l0 k x0 (x3 ++ [(y173 ++ ((rd_L23 x0 x4).take ((mn ((rd_L23 x0 x4).length : Int) 24) : Int).toNat))]) (wrap64 (x4 + 1))) else (none)) else (none)) else (none)) else (none)) else (none))) else (some x3)) else (some x3)
def proofmarkref27_Rows.f (k : Nat) (l0 : List (List Int)) : Option ((List (List Int))) := proofmarkref27_Rows.l0 k l0 (([] : List (List Int))) 0
theorem proofmarkref27_Rows.mono_l : ∀ k, (∀ y0 y1 y2, LeO (proofmarkref27_Rows.l0 k y0 y1 y2) (proofmarkref27_Rows.l0 (k + 1) y0 y1 y2))
  | 0 => fun _ _ _ r h => by simp [proofmarkref27_Rows.l0] at h
  | k + 1 => by
    have ih0 := proofmarkref27_Rows.mono_l k
    · intro y0 y1 y2
      unfold proofmarkref27_Rows.l0
      repeat' first
      | (with_reducible exact ih0 _ _ _)
      | (with_reducible exact LeO.refl _)
      | (with_reducible exact LeO.none _)
      | (with_reducible refine LeO.ite ?_ ?_)
      | (with_reducible refine LeO.bind ?_ (fun _ => ?_))
      | exact ih0 _ _ _
      | exact LeO.none _
      | refine LeO.ite ?_ ?_
      | refine LeO.bind ?_ (fun _ => ?_)
theorem proofmarkref27_Rows.mono : ∀ a0 k, LeO (proofmarkref27_Rows.f k a0) (proofmarkref27_Rows.f (k + 1) a0) := by
  intro a0 k
  have ih0 := proofmarkref27_Rows.mono_l k
  unfold proofmarkref27_Rows.f
  repeat' first
      | (with_reducible exact ih0 _ _ _)
      | (with_reducible exact LeO.refl _)
      | (with_reducible exact LeO.none _)
      | (with_reducible refine LeO.ite ?_ ?_)
      | (with_reducible refine LeO.bind ?_ (fun _ => ?_))
      | exact ih0 _ _ _
      | exact LeO.none _
      | refine LeO.ite ?_ ?_
      | refine LeO.bind ?_ (fun _ => ?_)
def proofmarkref27_Rows.T5 : Bool × List (List Nat × List Nat) := (true, [([], []), ([], []), ([], []), ([], []), ([2, 3], [2, 3]), ([4], [4]), ([], []), ([], []), ([6, 7], [6, 7]), ([8], [8]), ([9], [9]), ([10], [10]), ([5, 11], [5, 11]), ([1, 12], [1, 12]), ([13], [13]), ([0, 14, 13], [0, 14]), ([15, 15, 0, 1, 2, 3, 4, 5, 6, 7, 8, 9, 10, 11, 12, 13, 14, 15], [0, 15])])
def proofmarkref27_Rows.B5 : List Nat := [0, 0, 0, 0, 12, 28, 0, 0, 192, 448, 960, 1984, 4092, 8190, 16382, 32767, 65535]
theorem proofmarkref27_Rows.tab5 : rtab .any (opsOf Tryd.f28 5) = proofmarkref27_Rows.T5 := by kernel_rfl
theorem proofmarkref27_Rows.bits5 : waitsOk proofmarkref27_Rows.T5.2 proofmarkref27_Rows.B5 = true := by kernel_rfl
set_option maxHeartbeats 8000000 in
set_option maxRecDepth 100000 in
theorem proofmarkref27_Rows.calls (k : Nat) (A0 : Option Addr) (c0 : Nat) (l0 : List (List Int)) (r : List (List Int)) (w : World) (hr0 : Kd.C (Kd.slice 3 (Kd.int .i64)) w A0 l0.length l0) (hc0 : l0.length ≤ c0) (h : proofmarkref27_Rows.f k l0 = some r) :
    Calls Tryd.prog 28 #[.slice A0 l0.length c0] w fun e w' => ∃ v0_ : Value, e = .returned (v0_) ∧ Kd.S (Kd.slice 3 (Kd.int .i64)) 55 w' w.heap.size (fun _ => True) v0_ r ∧ Below w.heap.size w w' := by
  have HR0 := Aside0.mk hr0
  have HC0 := Aside0.mk hc0
  clear hr0 hc0
  have HB := Aside0.mk (Below.refl w.heap.size w)
  have H : (proofmarkref27_Rows.l0 k l0 (([] : List (List Int))) 0) = some r := h
  clear h
  obtain ⟨y170, hy170⟩ : ∃ y_ : List (List Int), y_ = (([] : List (List Int))) := ⟨_, rfl⟩
  replace H : (proofmarkref27_Rows.l0 k l0 y170 0) = some r := by first | (rw [hy170]; with_reducible exact H)
  have Ny170 := Aside0.mk hy170
  clear hy170
  have H' := Aside0.mk H
  clear H
  go_enter Tryd.func28, Tryd.ntmps28
  go_wp2_with (first | ((with_reducible refine gate_dst (N := 5) rfl ?_); refine Kd.S_lit (Kd.slice 3 (Kd.int .i64)) _ 55 ?hg (N := 5) ?hd (xs := ([] : List (List Int))) (inner := []) (ok := fun _ => True) (okp := fun _ => True) ?hr ?hp (fun _ hk => hk) trivial (Below.refl _ _) (Nat.le_refl _) (by simp) ?_; (case hd => rfl); (case hg => rfl); (case hr => first | (go_simp; done)); (case hp => exact (Reps.none _ _)); intro v171 w2 ho3 hb hg_ hnew_; clear hg_ hnew_; (first | rw [← Ny170.out] at ho3); have n0_ := Aside0.mk (Kd.S_lower ho3 (below_size HB.out)); have n1_ := Aside0.mk (below_step HB.out hb); clear HB; have HO172 := n0_; have HB := n1_; clear n0_ n1_; clear hb ho3))
  try simp only [Act.put, List.setIfInBounds_toArray, List.set_cons_succ, List.set_cons_zero]
  go_loopg [3, 4] k (fun kq v3 v4 w' => ∃ (x3_1 : List (List Int)) (x4_1 : Int), v4 = .int .i64 x4_1 ∧ Aside0 (proofmarkref27_Rows.l0 kq l0 x3_1 x4_1 = some r) ∧ Aside0 (kq ≤ k) ∧ Aside0 (Kd.S (Kd.slice 3 (Kd.int .i64)) 55 w' w.heap.size (fun _ => True) v3 x3_1) ∧ Aside0 (Below w.heap.size w w'))
  case atStart => exact ⟨(y170), (0), rfl, H', ⟨Nat.le_refl _⟩, ⟨by exact HO172.out⟩, ⟨by exact HB.out⟩⟩
  case round =>
    clear H'
    try clear c2
    try clear p2
    obtain ⟨x3_1, x4_1, rfl, HA, HK1, HO_3, HB⟩ := hrel
    cases gk with
    | zero => exact absurd HA.out (by simp [proofmarkref27_Rows.l0])
    | succ k1 =>
      have H := HA.out
      clear HA
      simp only [proofmarkref27_Rows.l0] at H
      by_cases c4 : x4_1 < (l0.length : Int)
      · rw [if_pos c4] at H
        have c4b0 : decide (x4_1 < (l0.length : Int)) = true := decide_eq_true c4
        clear c4
        by_cases c5 : x4_1 < 30
        · rw [if_pos c5] at H
          have c5b0 : decide (x4_1 < 30) = true := decide_eq_true c5
          clear c5
          obtain ⟨y173, hy173⟩ : ∃ y_ : List Int, y_ = (([] : List Int)) := ⟨_, rfl⟩
          replace H : (if 0 ≤ x4_1 then (if 0 ≤ (mn ((rd_L23 l0 x4_1).length : Int) 24) then (if (mn ((rd_L23 l0 x4_1).length : Int) 24) ≤ ((rd_L23 l0 x4_1).length : Int) then (if y173.length + ((rd_L23 l0 x4_1).take ((mn ((rd_L23 l0 x4_1).length : Int) 24) : Int).toNat).length < 17592186044416 then (if x3_1.length < 5864062014805 then (proofmarkref27_Rows.l0 k1 l0 (x3_1 ++ [(y173 ++ ((rd_L23 l0 x4_1).take ((mn ((rd_L23 l0 x4_1).length : Int) 24) : Int).toNat))]) (wrap64 (x4_1 + 1))) else (none)) else (none)) else (none)) else (none)) else (none)) = some r := by first | (have H2_ := (Option.bind_some _ _).symm.trans H; rw [hy173]; with_reducible exact H2_)
          have Ny173 := Aside0.mk hy173
          clear hy173
          by_cases c6 : 0 ≤ x4_1
          · rw [if_pos c6] at H
            have c6b0 : decide (0 ≤ x4_1) = true := decide_eq_true c6
            clear c6
            obtain ⟨ji7, hji7⟩ : ∃ j_ : Int, (mn ((rd_L23 l0 x4_1).length : Int) 24) = j_ := ⟨_, rfl⟩
            replace H : (if 0 ≤ (ji7) then (if (ji7) ≤ ((rd_L23 l0 x4_1).length : Int) then (if y173.length + ((rd_L23 l0 x4_1).take ((ji7) : Int).toNat).length < 17592186044416 then (if x3_1.length < 5864062014805 then (proofmarkref27_Rows.l0 k1 l0 (x3_1 ++ [(y173 ++ ((rd_L23 l0 x4_1).take ((ji7) : Int).toNat))]) (wrap64 (x4_1 + 1))) else (none)) else (none)) else (none)) else (none)) = some r := by first | (rw [hji7] at H; exact H)
            have hji7_ : (if 24 < ((rd_L23 l0 x4_1).length : Int) then 24 else ((rd_L23 l0 x4_1).length : Int)) = ji7 := hji7
            by_cases c8 : 0 ≤ (ji7)
            · rw [if_pos c8] at H
              have c8b0 := eq_true c8
              have c8b1 : decide (0 ≤ (ji7)) = true := decide_eq_true c8
              clear c8
              by_cases c9 : (ji7) ≤ ((rd_L23 l0 x4_1).length : Int)
              · rw [if_pos c9] at H
                have c9b0 := eq_true c9
                have c9b1 : decide ((ji7) ≤ ((rd_L23 l0 x4_1).length : Int)) = true := decide_eq_true c9
                clear c9
                by_cases c10 : y173.length + ((rd_L23 l0 x4_1).take ((ji7) : Int).toNat).length < 17592186044416
                · rw [if_pos c10] at H
                  have LMc10 := Aside0.mk c10
                  clear c10
                  obtain ⟨y179, hy179⟩ : ∃ y_ : List Int, y_ = (y173 ++ ((rd_L23 l0 x4_1).take ((ji7) : Int).toNat)) := ⟨_, rfl⟩
                  replace H : (if x3_1.length < 5864062014805 then (proofmarkref27_Rows.l0 k1 l0 (x3_1 ++ [y179]) (wrap64 (x4_1 + 1))) else (none)) = some r := by first | (rw [hy179]; with_reducible exact H)
                  have Ny179 := Aside0.mk hy179
                  clear hy179
                  by_cases c11 : x3_1.length < 5864062014805
                  · rw [if_pos c11] at H
                    have LMc11 := Aside0.mk c11
                    clear c11
                    obtain ⟨y182, hy182⟩ : ∃ y_ : List (List Int), y_ = (x3_1 ++ [y179]) := ⟨_, rfl⟩
                    replace H : (proofmarkref27_Rows.l0 k1 l0 y182 (wrap64 (x4_1 + 1))) = some r := by first | (rw [hy182]; with_reducible exact H)
                    have Ny182 := Aside0.mk hy182
                    clear hy182
                    have H' := Aside0.mk H
                    clear H
                    try go_wp2
                    have n0_ := Aside0.mk (Kd.S_drew HO_3.out)
                    have n1_ := Aside0.mk (below_drew1 HB.out)
                    clear HO_3
                    clear HB
                    have HO_3 := n0_
                    have HB := n1_
                    clear n0_ n1_
                    have p176 : 0 ≤ (x4_1 : Int) := of_decide_eq_true (by first | (with_reducible assumption))
                    have q176 : x4_1 < (l0.length : Int) := of_decide_eq_true (by first | (with_reducible assumption))
                    obtain ⟨ad176, A176_0, c176_0, e176, hx176_0, hl176_0, hi176_0⟩ := at_L23 HR0.out x4_1 p176 q176
                    have hw176_0 := hx176_0
                    cases e176
                    replace hx176_0 := (HB.out.cell (World.block_lt_of_cell? w _ hx176_0)).trans hx176_0
                    have HR176_0 := Aside0.mk hi176_0
                    have HC176_0 := Aside0.mk hl176_0
                    clear hi176_0 hl176_0
                    replace p176 := eq_true p176
                    replace q176 := eq_true q176
                    have p177 : 0 ≤ (x4_1 : Int) := of_decide_eq_true (by first | (with_reducible assumption))
                    have q177 : x4_1 < (l0.length : Int) := of_decide_eq_true (by first | (with_reducible assumption))
                    obtain ⟨ad177, A177_0, c177_0, e177, hx177_0, hl177_0, hi177_0⟩ := at_L23 HR0.out x4_1 p177 q177
                    have hw177_0 := hx177_0
                    obtain rfl : ad176 = ad177 := (by injection e177)
                    replace hx177_0 := (HB.out.cell (World.block_lt_of_cell? w _ hx177_0)).trans hx177_0
                    have HR177_0 := Aside0.mk hi177_0
                    have HC177_0 := Aside0.mk hl177_0
                    clear hi177_0 hl177_0
                    replace p177 := eq_true p177
                    replace q177 := eq_true q177
                    have ea_ := Option.some.inj (hx176_0.symm.trans hx177_0)
                    injection ea_ with ea_ en_ ec_
                    subst ea_
                    subst ec_
                    clear en_
                    obtain ⟨i013, hi013, _, hsz13, _⟩ := info_parts info3
                    obtain ⟨hcut13, hA13, hC13⟩ := print_take_of (P := Tryd.prog) (Value.int .i64) 0 55 3 .i64 Tryd.underlying55 hi013 hsz13 A176_0 c176_0 (rd_L23 l0 x4_1) (ji7) (of_decide_eq_true (by first | (with_reducible assumption))) (of_decide_eq_true (by first | (with_reducible assumption))) HC176_0.out
                    have HR178 := Aside0.mk (Kd.C_of_reads (h1 := fun _ => rfl) (hA13 _ (Kd.reads_of_C HR176_0.out)))
                    have HC178 := Aside0.mk hC13
                    clear hA13 hC13 hi013 hsz13
                    refine start_ (n := 17) (S := fun w' => w'.cell? (ad176.add (x4_1).toNat) = some (.slice A176_0 (rd_L23 l0 x4_1).length c176_0) ∧ w'.cell? (ad176.add (x4_1).toNat) = some (.slice A176_0 (rd_L23 l0 x4_1).length c176_0)) (ds := []) #[false, false, false, false, false, false, false, false, false, false, false, false, false, false, false, false, false] (by kernel_rfl) rfl rfl ⟨((HB.out.cell (World.block_lt_of_cell? w _ hw176_0)).trans hw176_0), ((HB.out.cell (World.block_lt_of_cell? w _ hw177_0)).trans hw177_0)⟩ (fun hHeld => ?_); refine with_tabW proofmarkref27_Rows.tab5 proofmarkref27_Rows.bits5 (fun HT_ HW_ => ?_)
                    generalize wr.drew = w12 at HO_3 HB HR176_0 HR177_0 HR178 hx176_0 hx177_0 hHeld ⊢
                    refine pure_ (i := 0) (N := some 16) (v := ?_) (a' := ?_) #[true, false, false, false, false, false, false, false, false, false, false, false, false, false, false, false, false] rfl rfl (any_of HT_.out (by kernel_rfl)) (fun _ _ _ h => h) (Or.inl ⟨by rfl, ?_⟩) ?_ ?_
                    rotate_left
                    · intro w'
                      go_simp
                      with_reducible rfl
                    rotate_left
                    · simp only [Act.put, List.setIfInBounds_toArray, List.set_cons_zero, List.set_cons_succ, i64_w, i32_w]
                      rfl
                    refine pure_ (i := 2) (N := some 18) (v := ?_) (a' := ?_) #[true, false, true, false, false, false, false, false, false, false, false, false, false, false, false, false, false] rfl rfl (any_of HT_.out (by kernel_rfl)) (fun _ _ _ h => h) (Or.inl ⟨by rfl, ?_⟩) ?_ ?_
                    rotate_left
                    · intro w'
                      go_simp
                      with_reducible rfl
                    rotate_left
                    · simp only [Act.put, List.setIfInBounds_toArray, List.set_cons_zero, List.set_cons_succ, i64_w, i32_w]
                      rfl
                    refine pure_ (i := 3) (N := some 19) (v := ?_) (a' := ?_) #[true, false, true, true, false, false, false, false, false, false, false, false, false, false, false, false, false] rfl rfl (any_of HT_.out (by kernel_rfl)) (fun _ _ _ h => h) (Or.inl ⟨by rfl, ?_⟩) ?_ ?_
                    rotate_left
                    · intro w'
                      go_simp
                      with_reducible rfl
                    rotate_left
                    · simp only [Act.put, List.setIfInBounds_toArray, List.set_cons_zero, List.set_cons_succ, i64_w, i32_w]
                      rfl
                    refine pure_ (i := 4) (N := some 20) (v := ?_) (a' := ?_) #[true, false, true, true, true, false, false, false, false, false, false, false, false, false, false, false, false] rfl rfl (any_of HT_.out (by kernel_rfl)) (fun _ _ _ h => h) (Or.inl ⟨by rfl, ?_⟩) ?_ ?_
                    rotate_left
                    · intro w'
                      go_simp
                      with_reducible rfl
                    rotate_left
                    · simp only [Act.put, List.setIfInBounds_toArray, List.set_cons_zero, List.set_cons_succ, i64_w, i32_w]
                      rfl
                    refine pure_ (i := 6) (N := some 22) (v := ?_) (a' := ?_) #[true, false, true, true, true, false, true, false, false, false, false, false, false, false, false, false, false] rfl rfl (any_of HT_.out (by kernel_rfl)) (fun _ _ _ h => h) (Or.inl ⟨by rfl, ?_⟩) ?_ ?_
                    rotate_left
                    · intro w'
                      go_simp
                      with_reducible rfl
                    rotate_left
                    · simp only [Act.put, List.setIfInBounds_toArray, List.set_cons_zero, List.set_cons_succ, i64_w, i32_w]
                      rfl
                    refine pure_ (i := 7) (N := some 23) (v := ?_) (a' := ?_) #[true, false, true, true, true, false, true, true, false, false, false, false, false, false, false, false, false] rfl rfl (any_of HT_.out (by kernel_rfl)) (fun _ _ _ h => h) (Or.inl ⟨by rfl, ?_⟩) ?_ ?_
                    rotate_left
                    · intro w'
                      go_simp
                      with_reducible rfl
                    rotate_left
                    · simp only [Act.put, List.setIfInBounds_toArray, List.set_cons_zero, List.set_cons_succ, i64_w, i32_w]
                      rfl
                    refine pure_ (i := 8) (N := some 24) (v := ?_) (a' := ?_) #[true, false, true, true, true, false, true, true, true, false, false, false, false, false, false, false, false] rfl rfl (any_of HT_.out (by kernel_rfl)) (fun _ _ _ h => h) (Or.inl ⟨by rfl, ?_⟩) ?_ ?_
                    rotate_left
                    · intro w'
                      go_simp
                      with_reducible rfl
                    rotate_left
                    · simp only [Act.put, List.setIfInBounds_toArray, List.set_cons_zero, List.set_cons_succ, i64_w, i32_w]
                      rfl
                    refine take_ (i := 5) (N := some 21) (v := ?_) (a' := ?_) #[true, false, true, true, true, true, true, true, true, false, false, false, false, false, false, false, false] rfl rfl (take_ofW HT_.out HW_.out (by kernel_rfl)) (fun _ _ _ h => h) (Or.inl ⟨by rfl, ?_⟩) hHeld ?_ ?_
                    rotate_left
                    · rintro w' ⟨s0, s1⟩
                      go_simp
                      with_reducible rfl
                    rotate_left
                    · simp only [Act.put, List.setIfInBounds_toArray, List.set_cons_zero, List.set_cons_succ, i64_w, i32_w]
                      rfl
                    refine take_ (i := 9) (N := some 25) (v := ?_) (a' := ?_) #[true, false, true, true, true, true, true, true, true, true, false, false, false, false, false, false, false] rfl rfl (take_ofW HT_.out HW_.out (by kernel_rfl)) (fun _ _ _ h => h) (Or.inl ⟨by rfl, ?_⟩) hHeld ?_ ?_
                    rotate_left
                    · rintro w' ⟨s0, s1⟩
                      go_simp
                      with_reducible rfl
                    rotate_left
                    · simp only [Act.put, List.setIfInBounds_toArray, List.set_cons_zero, List.set_cons_succ, i64_w, i32_w]
                      rfl
                    refine pure_ (i := 10) (N := some 26) (v := ?_) (a' := ?_) #[true, false, true, true, true, true, true, true, true, true, true, false, false, false, false, false, false] rfl rfl (any_of HT_.out (by kernel_rfl)) (fun _ _ _ h => h) (Or.inl ⟨by rfl, ?_⟩) ?_ ?_
                    rotate_left
                    · intro w'
                      go_simp
                      with_reducible rfl
                    rotate_left
                    · simp only [Act.put, List.setIfInBounds_toArray, List.set_cons_zero, List.set_cons_succ, i64_w, i32_w]
                      rfl
                    refine pure_ (i := 11) (N := some 27) (v := ?_) (a' := ?_) #[true, false, true, true, true, true, true, true, true, true, true, true, false, false, false, false, false] rfl rfl (any_of HT_.out (by kernel_rfl)) (fun _ _ _ h => h) (Or.inl ⟨by rfl, ?_⟩) ?_ ?_
                    rotate_left
                    · intro w'
                      go_simp
                      with_reducible rfl
                    rotate_left
                    · simp only [Act.put, List.setIfInBounds_toArray, List.set_cons_zero, List.set_cons_succ, i64_w, i32_w]
                      rfl
                    refine pure_ (i := 12) (N := some 28) (v := ?_) (a' := ?_) #[true, false, true, true, true, true, true, true, true, true, true, true, true, false, false, false, false] rfl rfl (any_of HT_.out (by kernel_rfl)) (fun _ _ _ h => h) (Or.inl ⟨by rfl, ?_⟩) ?_ ?_
                    rotate_left
                    · intro w'
                      go_simp
                      with_reducible rfl
                    rotate_left
                    · simp only [Act.put, List.setIfInBounds_toArray, List.set_cons_zero, List.set_cons_succ, i64_w, i32_w]
                      rfl
                    refine one_ (i := 1) (N := some 17) #[true, true, true, true, true, true, true, true, true, true, true, true, true, false, false, false, false] rfl rfl (one_of HT_.out (by kernel_rfl)) (by decide) (fun K hK => ?_)
                    refine Kd.R_lit_step (Kd.int .i64) _ 3 ?hg (N := 17) ?hd (xs := ([] : List Int)) (inner := []) (ok := fun _ => True) (okp := fun _ => True) ?hr ?hp (fun _ hk => hk) trivial (Below.refl _ _) (Nat.le_refl _) (by simp) ?_; (case hd => rfl); (case hg => rfl); (case hr => first | (go_simp; done)); (case hp => exact (Reps.none _ _))
                    intro v174 w14 ho15 hb hg_ hnew_
                    clear hg_ hnew_
                    (first | rw [← Ny173.out] at ho15)
                    have n0_ := Aside0.mk (Kd.S_elder' HO_3.out (Kd.R_base ho15) hb)
                    have n1_ := Aside0.mk (Kd.R_lower ho15 (below_size HB.out))
                    have n2_ := Aside0.mk (below_step HB.out hb)
                    clear HO_3
                    clear HB
                    have HO_3 := n0_
                    have HO175 := n1_
                    have HB := n2_
                    clear n0_ n1_ n2_
                    clear hb ho15
                    refine hK.out _ _ ⟨((HB.out.cell (World.block_lt_of_cell? w _ hw176_0)).trans hw176_0), ((HB.out.cell (World.block_lt_of_cell? w _ hw177_0)).trans hw177_0)⟩ (fun hHeld => ?_)
                    clear hK K
                    refine norm_ (a' := ?_) ?_ ?_
                    rotate_left
                    · show Act.put _ (some 17) _ = _
                      simp only [Act.put, List.setIfInBounds_toArray, List.set_cons_zero, List.set_cons_succ, i64_w, i32_w]
                      rfl
                    refine one_ (i := 13) (N := some 29) #[true, true, true, true, true, true, true, true, true, true, true, true, true, true, false, false, false] rfl rfl (one_of HT_.out (by kernel_rfl)) (by decide) (fun K hK => ?_)
                    refine Kd.R_append_rows_step (Kd.int .i64) (w0 := w) w.heap.size (by rfl) (.tmp 17) (.tmp 28) 55 3 (.int .i64 0) 8 rfl Tryd.underlying55 info3 rfl (by decide) (by omega) v174 y173 ((rd_L23 l0 x4_1).take ((ji7) : Int).toNat) _ _ _ (fun _ => True) (fun _ => False) rfl rfl ?aO ?aR (fun _ _ h => h) (fun _ h => h.elim) ?aF ?aB ?aS ?aL ?_
                    (case aR => first | (have q_ := (Kd.C_below HR178.out HB.out); rw [show ((rd_L23 l0 x4_1).take ((ji7) : Int).toNat).length = (ji7).toNat from (by rw [List.length_take]; have h_ : ((ji7) : Int) ≤ ((rd_L23 l0 x4_1).length : Int) := of_decide_eq_true (by first | (with_reducible assumption)); omega)] at q_; exact q_))
                    (case aB => exact HB.out)
                    (case aF => exact (fun _ _ => trivial))
                    (case aO => exact HO175.out)
                    (case aS => exact (below_size HB.out))
                    (case aL => have := LMc10.out; have hlx_ := (show ((rd_L23 l0 x4_1).take ((ji7) : Int).toNat).length = (ji7).toNat from (by rw [List.length_take]; have h_ : ((ji7) : Int) ≤ ((rd_L23 l0 x4_1).length : Int) := of_decide_eq_true (by first | (with_reducible assumption)); omega)); omega)
                    intro v180 w16 ho hb hg hat
                    rw [← Ny179.out] at ho
                    have n0_ := Aside0.mk (Kd.S_after (ok := (fun _ => True)) HO_3.out hg hat)
                    have n1_ := Aside0.mk (hb)
                    have n2_ := Aside0.mk (ho)
                    clear HO_3
                    clear HB
                    clear HO175
                    have HO_3 := n0_
                    have HB := n1_
                    have HO181 := n2_
                    clear n0_ n1_ n2_
                    clear ho hb hg hat
                    obtain ⟨Ao18, co18, eo18⟩ := Kd.R_slice HO181.out
                    (first | subst eo18)
                    refine hK.out _ _ ⟨((HB.out.cell (World.block_lt_of_cell? w _ hw176_0)).trans hw176_0), ((HB.out.cell (World.block_lt_of_cell? w _ hw177_0)).trans hw177_0)⟩ (fun hHeld => ?_)
                    clear hK K
                    refine norm_ (a' := ?_) ?_ ?_
                    rotate_left
                    · show Act.put _ (some 29) _ = _
                      simp only [Act.put, List.setIfInBounds_toArray, List.set_cons_zero, List.set_cons_succ, i64_w, i32_w]
                      rfl
                    refine one_ (i := 14) (N := some 30) #[true, true, true, true, true, true, true, true, true, true, true, true, true, true, true, false, false] rfl rfl (one_of HT_.out (by kernel_rfl)) (by decide) (fun K hK => ?_)
                    refine value_ (w1 := ?_) (v := ?_) (by rfl) rfl ?_ ?_
                    rotate_left 2
                    · go_simp
                      constructor
                      · rfl
                      · rfl
                    refine hK.out _ _ ⟨(World.cell?_alloc_lt _ _ _ (World.block_lt_of_cell? _ _ (((HB.out.cell (World.block_lt_of_cell? w _ hw176_0)).trans hw176_0)))).trans (((HB.out.cell (World.block_lt_of_cell? w _ hw176_0)).trans hw176_0)), (World.cell?_alloc_lt _ _ _ (World.block_lt_of_cell? _ _ (((HB.out.cell (World.block_lt_of_cell? w _ hw177_0)).trans hw177_0)))).trans (((HB.out.cell (World.block_lt_of_cell? w _ hw177_0)).trans hw177_0))⟩ (fun hHeld => ?_)
                    clear hK K
                    refine norm_ (a' := ?_) ?_ ?_
                    rotate_left
                    · show Act.put _ (some 30) _ = _
                      simp only [Act.put, List.setIfInBounds_toArray, List.set_cons_zero, List.set_cons_succ, i64_w, i32_w]
                      rfl
                    refine one_ (i := 15) (N := some 31) #[true, true, true, true, true, true, true, true, true, true, true, true, true, true, true, true, false] rfl rfl (one_of HT_.out (by kernel_rfl)) (by decide) (fun K hK => ?_)
                    refine Kd.S_append_step (Kd.slice 3 (Kd.int .i64)) (w0 := w) w.heap.size (by rfl) (.tmp 16) (.tmp 30) 28 55 (.slice none 0 0) 24 rfl Tryd.underlying28 info55 rfl (by decide) (by omega) u3 x3_1 y179 [.slice Ao18 y179.length co18] (fun _ => True) (fun k_ => some k_ = (.slice Ao18 y179.length co18 : Value).ownBlock) rfl rfl ?aP (fun k_ hk_ => ((Kd.R_mono (ok' := fun k_ => ((fun _ => True)) k_ ∧ some k_ ≠ (u3 : Value).ownBlock) (Kd.R_apart' (HO181.out) (Kd.S_typed HO_3.out) (by decide)) (fun k_ hk => ⟨trivial, hk.2⟩))).1 k_ hk_.symm) ?aF ?aO ?aB ?aS ?aL ?_
                    (case aP => exact Kd.M_row (Kd.R_mono (Kd.R_tight rfl (Kd.R_mono (ok' := fun k_ => ((fun _ => True)) k_ ∧ some k_ ≠ (u3 : Value).ownBlock) (Kd.R_apart' (HO181.out) (Kd.S_typed HO_3.out) (by decide)) (fun k_ hk => ⟨trivial, hk.2⟩))) (fun _ h_ => h_)))
                    (case aB => exact HB.out)
                    (case aF => exact (fun _ _ => trivial))
                    (case aO => exact (by exact Kd.S_mono HO_3.out (fun k_ hk => ⟨trivial, fun e_ => hk.2 e_⟩)))
                    (case aS => exact (below_size HB.out))
                    (case aL => have := LMc11.out; omega)
                    intro v183 w17 ho hb hg hat
                    rw [← Ny182.out] at ho
                    have n0_ := Aside0.mk (hb)
                    have n1_ := Aside0.mk (ho)
                    clear HB
                    clear HO_3
                    clear HO181
                    have HB := n0_
                    have HO184 := n1_
                    clear n0_ n1_
                    clear ho hb hg hat
                    refine hK.out _ _ ⟨((HB.out.cell (World.block_lt_of_cell? w _ hw176_0)).trans hw176_0), ((HB.out.cell (World.block_lt_of_cell? w _ hw177_0)).trans hw177_0)⟩ (fun hHeld => ?_)
                    clear hK K
                    refine norm_ (a' := ?_) ?_ ?_
                    rotate_left
                    · show Act.put _ (some 31) _ = _
                      simp only [Act.put, List.setIfInBounds_toArray, List.set_cons_zero, List.set_cons_succ, i64_w, i32_w]
                      rfl
                    refine pure_ (i := 16) (N := some 3) (v := ?_) (a' := ?_) #[true, true, true, true, true, true, true, true, true, true, true, true, true, true, true, true, true] rfl rfl (any_of HT_.out (by kernel_rfl)) (fun _ _ _ h => h) (Or.inl ⟨by rfl, ?_⟩) ?_ ?_
                    rotate_left
                    · intro w'
                      go_simp
                      with_reducible rfl
                    rotate_left
                    · simp only [Act.put, List.setIfInBounds_toArray, List.set_cons_zero, List.set_cons_succ, i64_w, i32_w]
                      rfl
                    refine done_ (done_of HT_.out (by kernel_rfl)) ?_
                    try go_wp2
                    go_roundg k1
                    case measure => have := HK1.out; omega
                    case rel => exact ⟨(y182), (wrap64 (x4_1 + 1)), rfl, H', ⟨by have := HK1.out; omega⟩, ⟨by exact HO184.out⟩, ⟨by exact HB.out⟩⟩
                  · rw [if_neg c11] at H
                    exact absurd H (by simp)
                · rw [if_neg c10] at H
                  exact absurd H (by simp)
              · rw [if_neg c9] at H
                exact absurd H (by simp)
            · rw [if_neg c8] at H
              exact absurd H (by simp)
          · rw [if_neg c6] at H
            exact absurd H (by simp)
        · rw [if_neg c5] at H
          have c5b0 : decide (x4_1 < 30) = false := decide_eq_false c5
          clear c5
          obtain rfl := Option.some.inj H
          go_wp2
          go_ret
          exact ⟨_, by first | rfl, by exact HO_3.out, by exact HB.out⟩
      · rw [if_neg c4] at H
        have c4b0 : decide (x4_1 < (l0.length : Int)) = false := decide_eq_false c4
        clear c4
        obtain rfl := Option.some.inj H
        go_wp2
        go_ret
        exact ⟨_, by first | rfl, by exact HO_3.out, by exact HB.out⟩

end Go.Proofs.YtmfekngjhiofaaaDoor.Q
