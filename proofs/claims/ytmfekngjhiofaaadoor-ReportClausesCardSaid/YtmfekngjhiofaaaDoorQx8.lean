-- Written by the session's own program (wip/tools/ownprint.py) for this claim: functions of the translation as plain Lean functions, and their contracts.
import Derived.Test.YtmfekngjhiofaaaDoorQx0
namespace Go.Proofs.YtmfekngjhiofaaaDoor.Q
open Go.RowKit Go.Proofs.YtmfekngjhiofaaaDoorW.PrintWords Go.Proofs.YtmfekngjhiofaaaDoorW.PrintLast Go.Proofs.YtmfekngjhiofaaaDoorW.PrintMore
attribute [local go_sem] max2_int min2_int max_two min_two max_three min_three max_four min_four   -- for this text's walks alone
set_option linter.unusedVariables false
set_option linter.unusedSimpArgs false

-- BY HAND: function 29 (lift_Trace)

/-! ### report_bits: function 39 -/
mutual
def report_bits.l0 : Nat → List (S94) → Int → Int → List (S96) → List (S111) → List (S94) → List (S73) → List (S111) → Int → List (S98) → Option (Int × (List (S201)) × (List (S202)) × (List (S98)) × (List (S204)))
  | 0, _, _, _, _, _, _, _, _, _, _ => none
  | k + 1, x8, x9, x10, x102000, x102001, x102002, x102003, x102004, x104000, x104003 => if x10 < x9 then (if 0 ≤ x10 then (if x10 < (x8.length : Int) then (if ((rd_T94 x8 x10).f1) < 0 then (report_bits.j1 k x10 x8 x9 x10 true x102000 x102001 x102002 x102003 x102004 x104000 x104003 ((rd_T94 x8 x10).f0) ((rd_T94 x8 x10).f1) ((rd_T94 x8 x10).f2) ((rd_T94 x8 x10).f3)) else (if ((rd_T94 x8 x10).f1) ≥ (x102000.length : Int) then (report_bits.j1 k x10 x8 x9 x10 true x102000 x102001 x102002 x102003 x102004 x104000 x104003 ((rd_T94 x8 x10).f0) ((rd_T94 x8 x10).f1) ((rd_T94 x8 x10).f2) ((rd_T94 x8 x10).f3)) else (if 0 ≤ ((rd_T94 x8 x10).f1) then (if ((rd_T94 x8 x10).f1) < (x102000.length : Int) then (report_bits.j1 k x10 x8 x9 x10 (decide (((rd_T96 x102000 ((rd_T94 x8 x10).f1)).f1) > 16)) x102000 x102001 x102002 x102003 x102004 x104000 x104003 ((rd_T94 x8 x10).f0) ((rd_T94 x8 x10).f1) ((rd_T94 x8 x10).f2) ((rd_T94 x8 x10).f3)) else (none)) else (none)))) else (none)) else (none)) else (some (x104000, ([] : List (S201)), ([] : List (S202)), x104003, ([] : List (S204))))
def report_bits.j1 : Nat → Int → List (S94) → Int → Int → Bool → List (S96) → List (S111) → List (S94) → List (S73) → List (S111) → Int → List (S98) → ByteArray → Int → Int → Int → Option (Int × (List (S201)) × (List (S202)) × (List (S98)) × (List (S204)))
  | 0, _, _, _, _, _, _, _, _, _, _, _, _, _, _, _, _ => none
  | k + 1, x4, x8, x9, x10, x35, x102000, x102001, x102002, x102003, x102004, x104000, x104003, x106000, x106001, x106002, x106003 => if x35 = true then (report_bits.l0 k x8 x9 (wrap64 (x10 + 1)) x102000 x102001 x102002 x102003 x102004 x104000 x104003) else (if 0 ≤ x106001 then (if x106001 < (x102000.length : Int) then (report_bits.l1 k x4 x8 x9 x10 (mx ((rd_T96 x102000 x106001).f1) 0) 0 x102000 x102001 x102002 x102003 x102004 x104000 x104003) else (none)) else (none))
def report_bits.l1 : Nat → Int → List (S94) → Int → Int → Int → Int → List (S96) → List (S111) → List (S94) → List (S73) → List (S111) → Int → List (S98) → Option (Int × (List (S201)) × (List (S202)) × (List (S98)) × (List (S204)))
  | 0, _, _, _, _, _, _, _, _, _, _, _, _, _ => none
  | k + 1, x4, x8, x9, x10, x43, x44, x102000, x102001, x102002, x102003, x102004, x104000, x104003 => if x44 < x43 then (if x104003.length < 3518437208883 then (report_bits.l1 k x4 x8 x9 x10 x43 (wrap64 (x44 + 1)) x102000 x102001 x102002 x102003 x102004 x104000 (x104003 ++ [(⟨0, 0, false, x4, x44⟩ : S98)])) else (none)) else (report_bits.l0 k x8 x9 (wrap64 (x10 + 1)) x102000 x102001 x102002 x102003 x102004 x104000 x104003)
end
def report_bits.f (k : Nat) (l0_0 : List (S96)) (l0_1 : List (S111)) (l0_2 : List (S94)) (l0_3 : List (S73)) (l0_4 : List (S111)) : Option (Int × (List (S201)) × (List (S202)) × (List (S98)) × (List (S204))) := report_bits.l0 k l0_2 (l0_2.length : Int) 0 l0_0 l0_1 l0_2 l0_3 l0_4 0 ([] : List (S98))
theorem report_bits.mono_l : ∀ k, (∀ y0 y1 y2 y3 y4 y5 y6 y7 y8 y9, LeO (report_bits.l0 k y0 y1 y2 y3 y4 y5 y6 y7 y8 y9) (report_bits.l0 (k + 1) y0 y1 y2 y3 y4 y5 y6 y7 y8 y9)) ∧ (∀ y0 y1 y2 y3 y4 y5 y6 y7 y8 y9 y10 y11 y12 y13 y14 y15, LeO (report_bits.j1 k y0 y1 y2 y3 y4 y5 y6 y7 y8 y9 y10 y11 y12 y13 y14 y15) (report_bits.j1 (k + 1) y0 y1 y2 y3 y4 y5 y6 y7 y8 y9 y10 y11 y12 y13 y14 y15)) ∧ (∀ y0 y1 y2 y3 y4 y5 y6 y7 y8 y9 y10 y11 y12, LeO (report_bits.l1 k y0 y1 y2 y3 y4 y5 y6 y7 y8 y9 y10 y11 y12) (report_bits.l1 (k + 1) y0 y1 y2 y3 y4 y5 y6 y7 y8 y9 y10 y11 y12))
  | 0 => ⟨fun _ _ _ _ _ _ _ _ _ _ r h => by simp [report_bits.l0] at h, fun _ _ _ _ _ _ _ _ _ _ _ _ _ _ _ _ r h => by simp [report_bits.j1] at h, fun _ _ _ _ _ _ _ _ _ _ _ _ _ r h => by simp [report_bits.l1] at h⟩
  | k + 1 => by
    obtain ⟨ih0, ih1, ih2⟩ := report_bits.mono_l k
    refine ⟨?_, ?_, ?_⟩
    · intro y0 y1 y2 y3 y4 y5 y6 y7 y8 y9
      unfold report_bits.l0
      repeat' first
      | (with_reducible exact ih0 _ _ _ _ _ _ _ _ _ _)
      | (with_reducible exact ih1 _ _ _ _ _ _ _ _ _ _ _ _ _ _ _ _)
      | (with_reducible exact ih2 _ _ _ _ _ _ _ _ _ _ _ _ _)
      | (with_reducible exact LeO.refl _)
      | (with_reducible exact LeO.none _)
      | (with_reducible refine LeO.ite ?_ ?_)
      | (with_reducible refine LeO.bind ?_ (fun _ => ?_))
      | exact ih0 _ _ _ _ _ _ _ _ _ _
      | exact ih1 _ _ _ _ _ _ _ _ _ _ _ _ _ _ _ _
      | exact ih2 _ _ _ _ _ _ _ _ _ _ _ _ _
      | exact LeO.none _
      | refine LeO.ite ?_ ?_
      | refine LeO.bind ?_ (fun _ => ?_)
    · intro y0 y1 y2 y3 y4 y5 y6 y7 y8 y9 y10 y11 y12 y13 y14 y15
      unfold report_bits.j1
      repeat' first
      | (with_reducible exact ih0 _ _ _ _ _ _ _ _ _ _)
      | (with_reducible exact ih1 _ _ _ _ _ _ _ _ _ _ _ _ _ _ _ _)
      | (with_reducible exact ih2 _ _ _ _ _ _ _ _ _ _ _ _ _)
      | (with_reducible exact LeO.refl _)
      | (with_reducible exact LeO.none _)
      | (with_reducible refine LeO.ite ?_ ?_)
      | (with_reducible refine LeO.bind ?_ (fun _ => ?_))
      | exact ih0 _ _ _ _ _ _ _ _ _ _
      | exact ih1 _ _ _ _ _ _ _ _ _ _ _ _ _ _ _ _
      | exact ih2 _ _ _ _ _ _ _ _ _ _ _ _ _
      | exact LeO.none _
      | refine LeO.ite ?_ ?_
      | refine LeO.bind ?_ (fun _ => ?_)
    · intro y0 y1 y2 y3 y4 y5 y6 y7 y8 y9 y10 y11 y12
      unfold report_bits.l1
      repeat' first
      | (with_reducible exact ih0 _ _ _ _ _ _ _ _ _ _)
      | (with_reducible exact ih1 _ _ _ _ _ _ _ _ _ _ _ _ _ _ _ _)
      | (with_reducible exact ih2 _ _ _ _ _ _ _ _ _ _ _ _ _)
      | (with_reducible exact LeO.refl _)
      | (with_reducible exact LeO.none _)
      | (with_reducible refine LeO.ite ?_ ?_)
      | (with_reducible refine LeO.bind ?_ (fun _ => ?_))
      | exact ih0 _ _ _ _ _ _ _ _ _ _
      | exact ih1 _ _ _ _ _ _ _ _ _ _ _ _ _ _ _ _
      | exact ih2 _ _ _ _ _ _ _ _ _ _ _ _ _
      | exact LeO.none _
      | refine LeO.ite ?_ ?_
      | refine LeO.bind ?_ (fun _ => ?_)
theorem report_bits.mono : ∀ a0 a1 a2 a3 a4 k, LeO (report_bits.f k a0 a1 a2 a3 a4) (report_bits.f (k + 1) a0 a1 a2 a3 a4) := by
  intro a0 a1 a2 a3 a4 k
  obtain ⟨ih0, ih1, ih2⟩ := report_bits.mono_l k
  unfold report_bits.f
  repeat' first
      | (with_reducible exact ih0 _ _ _ _ _ _ _ _ _ _)
      | (with_reducible exact ih1 _ _ _ _ _ _ _ _ _ _ _ _ _ _ _ _)
      | (with_reducible exact ih2 _ _ _ _ _ _ _ _ _ _ _ _ _)
      | (with_reducible exact LeO.refl _)
      | (with_reducible exact LeO.none _)
      | (with_reducible refine LeO.ite ?_ ?_)
      | (with_reducible refine LeO.bind ?_ (fun _ => ?_))
      | exact ih0 _ _ _ _ _ _ _ _ _ _
      | exact ih1 _ _ _ _ _ _ _ _ _ _ _ _ _ _ _ _
      | exact ih2 _ _ _ _ _ _ _ _ _ _ _ _ _
      | exact LeO.none _
      | refine LeO.ite ?_ ?_
      | refine LeO.bind ?_ (fun _ => ?_)
set_option maxHeartbeats 8000000 in
set_option maxRecDepth 100000 in
theorem report_bits.calls (k : Nat) (A0_0 : Option Addr) (c0_0 : Nat) (l0_0 : List (S96)) (A0_1 : Option Addr) (c0_1 : Nat) (l0_1 : List (S111)) (A0_2 : Option Addr) (c0_2 : Nat) (l0_2 : List (S94)) (A0_3 : Option Addr) (c0_3 : Nat) (l0_3 : List (S73)) (A0_4 : Option Addr) (c0_4 : Nat) (l0_4 : List (S111)) (r1 : Int) (r2 : List (S201)) (r3 : List (S202)) (r4 : List (S98)) (r5 : List (S204)) (w : World) (hr0_0 : Kd.C k96 w A0_0 l0_0.length l0_0) (hc0_0 : l0_0.length ≤ c0_0) (hr0_1 : Kd.C k111 w A0_1 l0_1.length l0_1) (hc0_1 : l0_1.length ≤ c0_1) (hr0_2 : Kd.C k94 w A0_2 l0_2.length l0_2) (hc0_2 : l0_2.length ≤ c0_2) (hr0_3 : Kd.C k73 w A0_3 l0_3.length l0_3) (hc0_3 : l0_3.length ≤ c0_3) (hr0_4 : Kd.C k111 w A0_4 l0_4.length l0_4) (hc0_4 : l0_4.length ≤ c0_4) (h : report_bits.f k l0_0 l0_1 l0_2 l0_3 l0_4 = some (r1, r2, r3, r4, r5)) :
    Calls Tryd.prog 39 #[.agg #[.slice A0_0 l0_0.length c0_0, .slice A0_1 l0_1.length c0_1, .slice A0_2 l0_2.length c0_2, .slice A0_3 l0_3.length c0_3, .slice A0_4 l0_4.length c0_4]] w fun e w' => ∃ v1_ v2_ v3_ v4_ : Value, e = .returned (.agg #[.int .i64 r1, v1_, v2_, v3_, v4_]) ∧ Kd.R k201 201 w' w.heap.size (fun _ => True) v1_ r2 ∧ Kd.R k202 202 w' w.heap.size (fun _ => True) v2_ r3 ∧ Kd.R k98 98 w' w.heap.size (fun _ => True) v3_ r4 ∧ Kd.R k204 204 w' w.heap.size (fun _ => True) v4_ r5 ∧ Below w.heap.size w w' := by
  have hu27 := Tryd.underlying27
  have hu53 := Tryd.underlying53
  have hu94 := Tryd.underlying94
  have hu98 := Tryd.underlying98
  have HR0_0 := Aside0.mk hr0_0
  have HC0_0 := Aside0.mk hc0_0
  clear hr0_0 hc0_0
  have HR0_1 := Aside0.mk hr0_1
  have HC0_1 := Aside0.mk hc0_1
  clear hr0_1 hc0_1
  have HR0_2 := Aside0.mk hr0_2
  have HC0_2 := Aside0.mk hc0_2
  clear hr0_2 hc0_2
  have HR0_3 := Aside0.mk hr0_3
  have HC0_3 := Aside0.mk hc0_3
  clear hr0_3 hc0_3
  have HR0_4 := Aside0.mk hr0_4
  have HC0_4 := Aside0.mk hc0_4
  clear hr0_4 hc0_4
  have HB := Aside0.mk (Below.refl w.heap.size w)
  have H : (report_bits.l0 k l0_2 (l0_2.length : Int) 0 l0_0 l0_1 l0_2 l0_3 l0_4 0 ([] : List (S98))) = some (r1, r2, r3, r4, r5) := h
  clear h
  have H' := Aside0.mk H
  clear H
  go_enter Tryd.func39, Tryd.ntmps39
  go_wp2_with (first | ((with_reducible refine gate_dst (N := 1) rfl ?_); (try (refine gate_guard (by rfl) ?_; dsimp only)); refine box_event ?hg (N := 1) ?hd (cs := #[.slice A0_0 l0_0.length c0_0, .slice A0_1 l0_1.length c0_1, .slice A0_2 l0_2.length c0_2, .slice A0_3 l0_3.length c0_3, .slice A0_4 l0_4.length c0_4]) (t := 27) ?hr ?_; (case hd => rfl); (case hg => rfl); (case hr => first | (go_simp; done)); intro gb101 hg w2 hbox hb; have n0_ := Aside0.mk (below_step HB.out hb); have n1_ := Aside0.mk (hbox); have n2_ := Aside0.mk ((by rw [hg]; exact (below_size HB.out) : w.heap.size ≤ gb101)); have n3_ := Aside0.mk ((by rw [hg]; exact (below_size HB.out) : w.heap.size ≤ gb101)); clear HB; have HB := n0_; have BK101 := n1_; have GW101 := n2_; have GE101 := n3_; clear n0_ n1_ n2_ n3_; clear hb hbox hg) | ((with_reducible refine gate_dst (N := 2) rfl ?_); (try (refine gate_guard (by rfl) ?_; dsimp only)); refine box_event ?hg (N := 2) ?hd (cs := #[.int .i64 0, .slice none 0 0, .slice none 0 0, .slice none 0 0, .slice none 0 0]) (t := 53) ?hr ?_; (case hd => rfl); (case hg => rfl); (case hr => first | (go_simp; done)); intro gb102 hg w3 hbox hb; have n0_ := Aside0.mk (blk_below BK101.out hb); have n1_ := Aside0.mk (below_step HB.out hb); have n2_ := Aside0.mk (hbox); have n3_ := Aside0.mk ((by rw [hg]; exact (below_size HB.out) : w.heap.size ≤ gb102)); have n4_ := Aside0.mk ((by rw [hg]; exact (below_size HB.out) : w.heap.size ≤ gb102)); have n5_ := Aside0.mk ((by rw [hg]; exact Nat.ne_of_lt (blk_lt BK101.out) : gb101 ≠ gb102)); have n6_ := Aside0.mk ((by rw [hg]; exact Nat.ne_of_gt (blk_lt BK101.out) : gb102 ≠ gb101)); clear BK101; clear HB; have BK101 := n0_; have HB := n1_; have BK102 := n2_; have GW102 := n3_; have GE102 := n4_; have NB101_102 := n5_; have NB102_101 := n6_; clear n0_ n1_ n2_ n3_ n4_ n5_ n6_; clear hb hbox hg) | ((with_reducible refine gate_dst (N := 3) rfl ?_); (try (refine gate_guard (by rfl) ?_; dsimp only)); refine box_event ?hg (N := 3) ?hd (cs := #[.int .i64 0, .slice none 0 0, .slice none 0 0, .slice none 0 0, .slice none 0 0]) (t := 53) ?hr ?_; (case hd => rfl); (case hg => rfl); (case hr => first | (go_simp; done)); intro gb103 hg w4 hbox hb; have n0_ := Aside0.mk (blk_below BK101.out hb); have n1_ := Aside0.mk (blk_below BK102.out hb); have n2_ := Aside0.mk (below_step HB.out hb); have n3_ := Aside0.mk (hbox); have n4_ := Aside0.mk ((by rw [hg]; exact (below_size HB.out) : w.heap.size ≤ gb103)); have n5_ := Aside0.mk ((by rw [hg]; exact (below_size HB.out) : w.heap.size ≤ gb103)); have n6_ := Aside0.mk ((by rw [hg]; exact Nat.ne_of_lt (blk_lt BK101.out) : gb101 ≠ gb103)); have n7_ := Aside0.mk ((by rw [hg]; exact Nat.ne_of_gt (blk_lt BK101.out) : gb103 ≠ gb101)); have n8_ := Aside0.mk ((by rw [hg]; exact Nat.ne_of_lt (blk_lt BK102.out) : gb102 ≠ gb103)); have n9_ := Aside0.mk ((by rw [hg]; exact Nat.ne_of_gt (blk_lt BK102.out) : gb103 ≠ gb102)); clear BK101; clear BK102; clear HB; have BK101 := n0_; have BK102 := n1_; have HB := n2_; have BK103 := n3_; have GW103 := n4_; have GE103 := n5_; have NB101_103 := n6_; have NB103_101 := n7_; have NB102_103 := n8_; have NB103_102 := n9_; clear n0_ n1_ n2_ n3_ n4_ n5_ n6_ n7_ n8_ n9_; clear hb hbox hg; have hnb5 := NB101_102.out; have hnc5 := NB102_101.out; have hnb6 := NB101_103.out; have hnc6 := NB103_101.out; have hcz7_0 : w4.cell? ⟨gb101, 0, none⟩ = some (.slice A0_0 l0_0.length c0_0) := (blk_cell BK101.out 0).trans rfl; have hcz7_1 : w4.cell? ⟨gb101, 1, none⟩ = some (.slice A0_1 l0_1.length c0_1) := (blk_cell BK101.out 1).trans rfl; have hcz7_2 : w4.cell? ⟨gb101, 2, none⟩ = some (.slice A0_2 l0_2.length c0_2) := (blk_cell BK101.out 2).trans rfl; have hcz7_3 : w4.cell? ⟨gb101, 3, none⟩ = some (.slice A0_3 l0_3.length c0_3) := (blk_cell BK101.out 3).trans rfl; have hcz7_4 : w4.cell? ⟨gb101, 4, none⟩ = some (.slice A0_4 l0_4.length c0_4) := (blk_cell BK101.out 4).trans rfl; have hfz7_0 := blk_frozen BK101.out 0; have hfz7_1 := blk_frozen BK101.out 1; have hfz7_2 := blk_frozen BK101.out 2; have hfz7_3 := blk_frozen BK101.out 3; have hfz7_4 := blk_frozen BK101.out 4))
  try simp only [Act.put, List.setIfInBounds_toArray, List.set_cons_succ, List.set_cons_zero]
  go_loopg [10] k (fun kq v10 w' => ∃ (x10_1 : Int) (x104003_1 : List (S98)) (u104003 : Value), v10 = .int .i64 x10_1 ∧ Aside0 (report_bits.l0 kq l0_2 (l0_2.length : Int) x10_1 l0_0 l0_1 l0_2 l0_3 l0_4 0 x104003_1 = some (r1, r2, r3, r4, r5)) ∧ Aside0 (kq ≤ k) ∧ Aside0 (Kd.R k98 98 w' w.heap.size (fun _ => True) u104003 x104003_1) ∧ Aside0 (w'.heap[gb101]? = some (.cells #[(.slice A0_0 l0_0.length c0_0), (.slice A0_1 l0_1.length c0_1), (.slice A0_2 l0_2.length c0_2), (.slice A0_3 l0_3.length c0_3), (.slice A0_4 l0_4.length c0_4)] 27 (0, 0))) ∧ Aside0 (w'.heap[gb102]? = some (.cells #[.int .i64 0, (.slice none 0 0), (.slice none 0 0), (.slice none 0 0), (.slice none 0 0)] 53 (0, 0))) ∧ Aside0 (w'.heap[gb103]? = some (.cells #[.int .i64 0, (.slice none 0 0), (.slice none 0 0), u104003, (.slice none 0 0)] 53 (0, 0))) ∧ Aside0 (Below w.heap.size w w'))
  case atStart => exact ⟨(0), (([] : List (S98))), (.slice none 0 0), rfl, H', ⟨Nat.le_refl _⟩, ⟨by first | exact Kd.R_nil _ _ _ _ _⟩, ⟨by exact BK101.out⟩, ⟨by exact BK102.out⟩, ⟨by exact BK103.out⟩, ⟨by exact HB.out⟩⟩
  case round =>
    clear H'
    try clear p2
    try clear c3
    try clear c5
    try clear c6
    try clear hcz7_0
    try clear hcz7_1
    try clear hcz7_2
    try clear hcz7_3
    try clear hcz7_4
    try clear hfz7_0
    try clear hfz7_1
    try clear hfz7_2
    try clear hfz7_3
    try clear hfz7_4
    obtain ⟨x10_1, x104003_1, u104003, rfl, HA, HK1, HO_104003, BK101, BK102, BK103, HB⟩ := hrel
    cases gk with
    | zero => exact absurd HA.out (by simp [report_bits.l0])
    | succ k1 =>
      have H := HA.out
      clear HA
      simp only [report_bits.l0] at H
      by_cases c8 : x10_1 < (l0_2.length : Int)
      · rw [if_pos c8] at H
        have c8b0 : decide (x10_1 < (l0_2.length : Int)) = true := decide_eq_true c8
        clear c8
        by_cases c9 : 0 ≤ x10_1
        · rw [if_pos c9] at H
          have c9b0 : decide (0 ≤ x10_1) = true := decide_eq_true c9
          clear c9
          by_cases c10 : x10_1 < (l0_2.length : Int)
          · rw [if_pos c10] at H
            have c10b0 : decide (x10_1 < (l0_2.length : Int)) = true := decide_eq_true c10
            clear c10
            have HC11 := Aside0.mk H
            clear H
            have p104 : 0 ≤ (x10_1 : Int) := of_decide_eq_true (by first | (with_reducible assumption))
            have q104 : x10_1 < (l0_2.length : Int) := of_decide_eq_true (by first | (with_reducible assumption))
            obtain ⟨ad104, e104, hx104_0, hx104_1, hx104_2, hx104_3⟩ := at_T94 HR0_2.out x10_1 p104 q104
            cases e104
            replace hx104_0 := (HB.out.cell (World.block_lt_of_cell? w _ hx104_0)).trans hx104_0
            replace hx104_1 := (HB.out.cell (World.block_lt_of_cell? w _ hx104_1)).trans hx104_1
            replace hx104_2 := (HB.out.cell (World.block_lt_of_cell? w _ hx104_2)).trans hx104_2
            replace hx104_3 := (HB.out.cell (World.block_lt_of_cell? w _ hx104_3)).trans hx104_3
            replace p104 := eq_true p104
            replace q104 := eq_true q104
            go_upto_region 5 with (first | ((with_reducible refine gate_dst (N := 5) rfl ?_); (try (refine gate_guard (by rfl) ?_; dsimp only)); refine box_event ?hg (N := 5) ?hd (cs := #[.string (⟨#[]⟩ : ByteArray), .int .i64 0, .int .i64 0, .int .i64 0]) (t := 94) ?hr ?_; (case hd => rfl); (case hg => rfl); (case hr => first | (go_simp; done)); intro gb105 hg w12 hbox hb; have n0_ := Aside0.mk (Kd.R_below HO_104003.out hb); have n1_ := Aside0.mk (blk_below BK101.out hb); have n2_ := Aside0.mk (blk_below BK102.out hb); have n3_ := Aside0.mk (blk_below BK103.out hb); have n4_ := Aside0.mk (below_step HB.out hb); have n5_ := Aside0.mk (hbox); have n6_ := Aside0.mk ((by rw [hg]; exact (below_size HB.out) : w.heap.size ≤ gb105)); have n7_ := Aside0.mk ((by rw [hg]; exact (below_size HB.out) : w.heap.size ≤ gb105)); have n8_ := Aside0.mk ((by rw [hg]; exact Nat.ne_of_lt (blk_lt BK101.out) : gb101 ≠ gb105)); have n9_ := Aside0.mk ((by rw [hg]; exact Nat.ne_of_gt (blk_lt BK101.out) : gb105 ≠ gb101)); have n10_ := Aside0.mk ((by rw [hg]; exact Nat.ne_of_lt (blk_lt BK102.out) : gb102 ≠ gb105)); have n11_ := Aside0.mk ((by rw [hg]; exact Nat.ne_of_gt (blk_lt BK102.out) : gb105 ≠ gb102)); have n12_ := Aside0.mk ((by rw [hg]; exact Nat.ne_of_lt (blk_lt BK103.out) : gb103 ≠ gb105)); have n13_ := Aside0.mk ((by rw [hg]; exact Nat.ne_of_gt (blk_lt BK103.out) : gb105 ≠ gb103)); clear HO_104003; clear BK101; clear BK102; clear BK103; clear HB; have HO_104003 := n0_; have BK101 := n1_; have BK102 := n2_; have BK103 := n3_; have HB := n4_; have BK105 := n5_; have GW105 := n6_; have GE105 := n7_; have NB101_105 := n8_; have NB105_101 := n9_; have NB102_105 := n10_; have NB105_102 := n11_; have NB103_105 := n12_; have NB105_103 := n13_; clear n0_ n1_ n2_ n3_ n4_ n5_ n6_ n7_ n8_ n9_ n10_ n11_ n12_ n13_; clear hb hbox hg; have hnb13 := NB105_101.out; have hnc13 := NB101_105.out; have hnb14 := NB105_102.out; have hnc14 := NB102_105.out; have hnb15 := NB105_103.out; have hnc15 := NB103_105.out; have hcz16_0 : w12.cell? ⟨gb105, 0, none⟩ = some (.string (⟨#[]⟩ : ByteArray)) := (blk_cell BK105.out 0).trans rfl; have hcz16_1 : w12.cell? ⟨gb105, 1, none⟩ = some (.int .i64 0) := (blk_cell BK105.out 1).trans rfl; have hcz16_2 : w12.cell? ⟨gb105, 2, none⟩ = some (.int .i64 0) := (blk_cell BK105.out 2).trans rfl; have hcz16_3 : w12.cell? ⟨gb105, 3, none⟩ = some (.int .i64 0) := (blk_cell BK105.out 3).trans rfl; have hfz16_0 := blk_frozen BK105.out 0; have hfz16_1 := blk_frozen BK105.out 1; have hfz16_2 := blk_frozen BK105.out 2; have hfz16_3 := blk_frozen BK105.out 3))
            (try simp only [Act.put, List.setIfInBounds_toArray, List.set_cons_zero, List.set_cons_succ])
            go_cut [35] (fun v35 wc => ∃ (kq : Nat) (x35_10 : Bool), v35 = .bool x35_10 ∧ Aside0 (report_bits.j1 kq x10_1 l0_2 (l0_2.length : Int) x10_1 x35_10 l0_0 l0_1 l0_2 l0_3 l0_4 0 x104003_1 ((rd_T94 l0_2 x10_1).f0) ((rd_T94 l0_2 x10_1).f1) ((rd_T94 l0_2 x10_1).f2) ((rd_T94 l0_2 x10_1).f3) = some (r1, r2, r3, r4, r5)) ∧ Aside0 (kq ≤ k1) ∧ Aside0 (Kd.R k98 98 wc w.heap.size (fun _ => True) u104003 x104003_1) ∧ Aside0 (wc.heap[gb101]? = some (.cells #[(.slice A0_0 l0_0.length c0_0), (.slice A0_1 l0_1.length c0_1), (.slice (some ad104) l0_2.length c0_2), (.slice A0_3 l0_3.length c0_3), (.slice A0_4 l0_4.length c0_4)] 27 (0, 0))) ∧ Aside0 (wc.heap[gb102]? = some (.cells #[.int .i64 0, (.slice none 0 0), (.slice none 0 0), (.slice none 0 0), (.slice none 0 0)] 53 (0, 0))) ∧ Aside0 (wc.heap[gb103]? = some (.cells #[.int .i64 0, (.slice none 0 0), (.slice none 0 0), u104003, (.slice none 0 0)] 53 (0, 0))) ∧ Aside0 (wc.heap[gb105]? = some (.cells #[.string ((rd_T94 l0_2 x10_1).f0), .int .i64 ((rd_T94 l0_2 x10_1).f1), .int .i64 ((rd_T94 l0_2 x10_1).f2), .int .i64 ((rd_T94 l0_2 x10_1).f3)] 94 (0, 0))) ∧ Aside0 (Below w.heap.size w wc))
            case first =>
              have H := HC11.out
              clear HC11
              by_cases c17 : ((rd_T94 l0_2 x10_1).f1) < 0
              · rw [if_pos c17] at H
                have c17b0 : decide (((rd_T94 l0_2 x10_1).f1) < 0) = true := decide_eq_true c17
                clear c17
                (first | skip)
                have H' := Aside0.mk H
                clear H
                have hnb18 := NB105_101.out
                have hnc18 := NB101_105.out
                have hnb19 := NB105_102.out
                have hnc19 := NB102_105.out
                have hnb20 := NB105_103.out
                have hnc20 := NB103_105.out
                have hcz21_0 : w12.cell? ⟨gb105, 0, none⟩ = some (.string (⟨#[]⟩ : ByteArray)) := (blk_cell BK105.out 0).trans rfl
                have hcz21_1 : w12.cell? ⟨gb105, 1, none⟩ = some (.int .i64 0) := (blk_cell BK105.out 1).trans rfl
                have hcz21_2 : w12.cell? ⟨gb105, 2, none⟩ = some (.int .i64 0) := (blk_cell BK105.out 2).trans rfl
                have hcz21_3 : w12.cell? ⟨gb105, 3, none⟩ = some (.int .i64 0) := (blk_cell BK105.out 3).trans rfl
                have hfz21_0 := blk_frozen BK105.out 0
                have hfz21_1 := blk_frozen BK105.out 1
                have hfz21_2 := blk_frozen BK105.out 2
                have hfz21_3 := blk_frozen BK105.out 3
                go_wp2
                go_meet
                case rel => exact ⟨_, (true), rfl, H', ⟨by have := HK1.out; first | omega⟩, ⟨by exact Kd.R_mono (Kd.R_far (p := ⟨gb105, 3, none⟩) (Kd.R_far (p := ⟨gb105, 2, none⟩) (Kd.R_far (p := ⟨gb105, 1, none⟩) (Kd.R_far (p := ⟨gb105, 0, none⟩) (Kd.R_types HO_104003.out BK105.out (by decide)) (fun _ hk => hk.2) (.string ((rd_T94 l0_2 x10_1).f0))) (fun _ hk => hk.2) (.int .i64 ((rd_T94 l0_2 x10_1).f1))) (fun _ hk => hk.2) (.int .i64 ((rd_T94 l0_2 x10_1).f2))) (fun _ hk => hk.2) (.int .i64 ((rd_T94 l0_2 x10_1).f3))) (fun _ hk => trivial)⟩, ⟨by refine blk_far ?_ NB101_105.out _; refine blk_far ?_ NB101_105.out _; refine blk_far ?_ NB101_105.out _; refine blk_far ?_ NB101_105.out _; exact BK101.out⟩, ⟨by refine blk_far ?_ NB102_105.out _; refine blk_far ?_ NB102_105.out _; refine blk_far ?_ NB102_105.out _; refine blk_far ?_ NB102_105.out _; exact BK102.out⟩, ⟨by refine blk_far ?_ NB103_105.out _; refine blk_far ?_ NB103_105.out _; refine blk_far ?_ NB103_105.out _; refine blk_far ?_ NB103_105.out _; exact BK103.out⟩, ⟨by refine blk_put (cs := #[.string ((rd_T94 l0_2 x10_1).f0), .int .i64 ((rd_T94 l0_2 x10_1).f1), .int .i64 ((rd_T94 l0_2 x10_1).f2), .int .i64 0]) ?_ 3 _ rfl; refine blk_put (cs := #[.string ((rd_T94 l0_2 x10_1).f0), .int .i64 ((rd_T94 l0_2 x10_1).f1), .int .i64 0, .int .i64 0]) ?_ 2 _ rfl; refine blk_put (cs := #[.string ((rd_T94 l0_2 x10_1).f0), .int .i64 0, .int .i64 0, .int .i64 0]) ?_ 1 _ rfl; refine blk_put (cs := #[.string (⟨#[]⟩ : ByteArray), .int .i64 0, .int .i64 0, .int .i64 0]) ?_ 0 _ rfl; exact BK105.out⟩, ⟨by repeat (first | (with_reducible first | exact HB.out | refine below_set ?_ GE105.out))⟩⟩
              · rw [if_neg c17] at H
                have c17b0 : decide (((rd_T94 l0_2 x10_1).f1) < 0) = false := decide_eq_false c17
                clear c17
                (first | skip)
                by_cases c22 : ((rd_T94 l0_2 x10_1).f1) ≥ (l0_0.length : Int)
                · rw [if_pos c22] at H
                  have c22b0 : decide ((l0_0.length : Int) ≤ ((rd_T94 l0_2 x10_1).f1)) = true := decide_eq_true c22
                  clear c22
                  have H' := Aside0.mk H
                  clear H
                  have hnb23 := NB105_101.out
                  have hnc23 := NB101_105.out
                  have hnb24 := NB105_102.out
                  have hnc24 := NB102_105.out
                  have hnb25 := NB105_103.out
                  have hnc25 := NB103_105.out
                  have hcz26_0 : w12.cell? ⟨gb105, 0, none⟩ = some (.string (⟨#[]⟩ : ByteArray)) := (blk_cell BK105.out 0).trans rfl
                  have hcz26_1 : w12.cell? ⟨gb105, 1, none⟩ = some (.int .i64 0) := (blk_cell BK105.out 1).trans rfl
                  have hcz26_2 : w12.cell? ⟨gb105, 2, none⟩ = some (.int .i64 0) := (blk_cell BK105.out 2).trans rfl
                  have hcz26_3 : w12.cell? ⟨gb105, 3, none⟩ = some (.int .i64 0) := (blk_cell BK105.out 3).trans rfl
                  have hfz26_0 := blk_frozen BK105.out 0
                  have hfz26_1 := blk_frozen BK105.out 1
                  have hfz26_2 := blk_frozen BK105.out 2
                  have hfz26_3 := blk_frozen BK105.out 3
                  have hnb27 := NB101_102.out
                  have hnc27 := NB102_101.out
                  have hnb28 := NB101_103.out
                  have hnc28 := NB103_101.out
                  have hcz29_0 : w12.cell? ⟨gb101, 0, none⟩ = some (.slice A0_0 l0_0.length c0_0) := (blk_cell BK101.out 0).trans rfl
                  have hcz29_1 : w12.cell? ⟨gb101, 1, none⟩ = some (.slice A0_1 l0_1.length c0_1) := (blk_cell BK101.out 1).trans rfl
                  have hcz29_2 : w12.cell? ⟨gb101, 2, none⟩ = some (.slice (some ad104) l0_2.length c0_2) := (blk_cell BK101.out 2).trans rfl
                  have hcz29_3 : w12.cell? ⟨gb101, 3, none⟩ = some (.slice A0_3 l0_3.length c0_3) := (blk_cell BK101.out 3).trans rfl
                  have hcz29_4 : w12.cell? ⟨gb101, 4, none⟩ = some (.slice A0_4 l0_4.length c0_4) := (blk_cell BK101.out 4).trans rfl
                  have hfz29_0 := blk_frozen BK101.out 0
                  have hfz29_1 := blk_frozen BK101.out 1
                  have hfz29_2 := blk_frozen BK101.out 2
                  have hfz29_3 := blk_frozen BK101.out 3
                  have hfz29_4 := blk_frozen BK101.out 4
                  go_wp2
                  go_meet
                  case rel => exact ⟨_, (true), rfl, H', ⟨by have := HK1.out; first | omega⟩, ⟨by exact Kd.R_mono (Kd.R_far (p := ⟨gb105, 3, none⟩) (Kd.R_far (p := ⟨gb105, 2, none⟩) (Kd.R_far (p := ⟨gb105, 1, none⟩) (Kd.R_far (p := ⟨gb105, 0, none⟩) (Kd.R_types HO_104003.out BK105.out (by decide)) (fun _ hk => hk.2) (.string ((rd_T94 l0_2 x10_1).f0))) (fun _ hk => hk.2) (.int .i64 ((rd_T94 l0_2 x10_1).f1))) (fun _ hk => hk.2) (.int .i64 ((rd_T94 l0_2 x10_1).f2))) (fun _ hk => hk.2) (.int .i64 ((rd_T94 l0_2 x10_1).f3))) (fun _ hk => trivial)⟩, ⟨by refine blk_far ?_ NB101_105.out _; refine blk_far ?_ NB101_105.out _; refine blk_far ?_ NB101_105.out _; refine blk_far ?_ NB101_105.out _; exact BK101.out⟩, ⟨by refine blk_far ?_ NB102_105.out _; refine blk_far ?_ NB102_105.out _; refine blk_far ?_ NB102_105.out _; refine blk_far ?_ NB102_105.out _; exact BK102.out⟩, ⟨by refine blk_far ?_ NB103_105.out _; refine blk_far ?_ NB103_105.out _; refine blk_far ?_ NB103_105.out _; refine blk_far ?_ NB103_105.out _; exact BK103.out⟩, ⟨by refine blk_put (cs := #[.string ((rd_T94 l0_2 x10_1).f0), .int .i64 ((rd_T94 l0_2 x10_1).f1), .int .i64 ((rd_T94 l0_2 x10_1).f2), .int .i64 0]) ?_ 3 _ rfl; refine blk_put (cs := #[.string ((rd_T94 l0_2 x10_1).f0), .int .i64 ((rd_T94 l0_2 x10_1).f1), .int .i64 0, .int .i64 0]) ?_ 2 _ rfl; refine blk_put (cs := #[.string ((rd_T94 l0_2 x10_1).f0), .int .i64 0, .int .i64 0, .int .i64 0]) ?_ 1 _ rfl; refine blk_put (cs := #[.string (⟨#[]⟩ : ByteArray), .int .i64 0, .int .i64 0, .int .i64 0]) ?_ 0 _ rfl; exact BK105.out⟩, ⟨by repeat (first | (with_reducible first | exact HB.out | refine below_set ?_ GE105.out))⟩⟩
                · rw [if_neg c22] at H
                  have c22b0 : decide ((l0_0.length : Int) ≤ ((rd_T94 l0_2 x10_1).f1)) = false := decide_eq_false c22
                  clear c22
                  by_cases c30 : 0 ≤ ((rd_T94 l0_2 x10_1).f1)
                  · rw [if_pos c30] at H
                    have c30b0 : decide (0 ≤ ((rd_T94 l0_2 x10_1).f1)) = true := decide_eq_true c30
                    clear c30
                    by_cases c31 : ((rd_T94 l0_2 x10_1).f1) < (l0_0.length : Int)
                    · rw [if_pos c31] at H
                      have c31b0 : decide (((rd_T94 l0_2 x10_1).f1) < (l0_0.length : Int)) = true := decide_eq_true c31
                      clear c31
                      have H' := Aside0.mk H
                      clear H
                      have hnb32 := NB105_101.out
                      have hnc32 := NB101_105.out
                      have hnb33 := NB105_102.out
                      have hnc33 := NB102_105.out
                      have hnb34 := NB105_103.out
                      have hnc34 := NB103_105.out
                      have hcz35_0 : w12.cell? ⟨gb105, 0, none⟩ = some (.string (⟨#[]⟩ : ByteArray)) := (blk_cell BK105.out 0).trans rfl
                      have hcz35_1 : w12.cell? ⟨gb105, 1, none⟩ = some (.int .i64 0) := (blk_cell BK105.out 1).trans rfl
                      have hcz35_2 : w12.cell? ⟨gb105, 2, none⟩ = some (.int .i64 0) := (blk_cell BK105.out 2).trans rfl
                      have hcz35_3 : w12.cell? ⟨gb105, 3, none⟩ = some (.int .i64 0) := (blk_cell BK105.out 3).trans rfl
                      have hfz35_0 := blk_frozen BK105.out 0
                      have hfz35_1 := blk_frozen BK105.out 1
                      have hfz35_2 := blk_frozen BK105.out 2
                      have hfz35_3 := blk_frozen BK105.out 3
                      have hnb36 := NB101_102.out
                      have hnc36 := NB102_101.out
                      have hnb37 := NB101_103.out
                      have hnc37 := NB103_101.out
                      have hcz38_0 : w12.cell? ⟨gb101, 0, none⟩ = some (.slice A0_0 l0_0.length c0_0) := (blk_cell BK101.out 0).trans rfl
                      have hcz38_1 : w12.cell? ⟨gb101, 1, none⟩ = some (.slice A0_1 l0_1.length c0_1) := (blk_cell BK101.out 1).trans rfl
                      have hcz38_2 : w12.cell? ⟨gb101, 2, none⟩ = some (.slice (some ad104) l0_2.length c0_2) := (blk_cell BK101.out 2).trans rfl
                      have hcz38_3 : w12.cell? ⟨gb101, 3, none⟩ = some (.slice A0_3 l0_3.length c0_3) := (blk_cell BK101.out 3).trans rfl
                      have hcz38_4 : w12.cell? ⟨gb101, 4, none⟩ = some (.slice A0_4 l0_4.length c0_4) := (blk_cell BK101.out 4).trans rfl
                      have hfz38_0 := blk_frozen BK101.out 0
                      have hfz38_1 := blk_frozen BK101.out 1
                      have hfz38_2 := blk_frozen BK101.out 2
                      have hfz38_3 := blk_frozen BK101.out 3
                      have hfz38_4 := blk_frozen BK101.out 4
                      have p106 : 0 ≤ (((rd_T94 l0_2 x10_1).f1) : Int) := of_decide_eq_true (by first | (with_reducible assumption))
                      have q106 : ((rd_T94 l0_2 x10_1).f1) < (l0_0.length : Int) := of_decide_eq_true (by first | (with_reducible assumption))
                      obtain ⟨ad106, e106, hx106_0, hx106_1, hx106_2, hx106_3, hx106_4, hx106_5, hx106_6⟩ := at_T96 HR0_0.out ((rd_T94 l0_2 x10_1).f1) p106 q106
                      cases e106
                      have hn106_0 : ad106.block ≠ gb105 := Nat.ne_of_lt (Nat.lt_of_lt_of_le (by have := World.block_lt_of_cell? _ _ hx106_0; first | rwa [add_block] at this) GW105.out)
                      have hn106_1 : ad106.block ≠ gb105 := Nat.ne_of_lt (Nat.lt_of_lt_of_le (by have := World.block_lt_of_cell? _ _ hx106_0; first | rwa [add_block] at this) GW105.out)
                      have hn106_2 : ad106.block ≠ gb105 := Nat.ne_of_lt (Nat.lt_of_lt_of_le (by have := World.block_lt_of_cell? _ _ hx106_0; first | rwa [add_block] at this) GW105.out)
                      have hn106_3 : ad106.block ≠ gb105 := Nat.ne_of_lt (Nat.lt_of_lt_of_le (by have := World.block_lt_of_cell? _ _ hx106_0; first | rwa [add_block] at this) GW105.out)
                      replace hx106_0 := (HB.out.cell (World.block_lt_of_cell? w _ hx106_0)).trans hx106_0
                      replace hx106_1 := (HB.out.cell (World.block_lt_of_cell? w _ hx106_1)).trans hx106_1
                      replace hx106_2 := (HB.out.cell (World.block_lt_of_cell? w _ hx106_2)).trans hx106_2
                      replace hx106_3 := (HB.out.cell (World.block_lt_of_cell? w _ hx106_3)).trans hx106_3
                      replace hx106_4 := (HB.out.cell (World.block_lt_of_cell? w _ hx106_4)).trans hx106_4
                      replace hx106_5 := (HB.out.cell (World.block_lt_of_cell? w _ hx106_5)).trans hx106_5
                      replace hx106_6 := (HB.out.cell (World.block_lt_of_cell? w _ hx106_6)).trans hx106_6
                      replace hx106_0 := (cell_far (p := ⟨gb105, 0, none⟩) (by first | (rw [add_block]; exact hn106_0)) (.string ((rd_T94 l0_2 x10_1).f0))).trans hx106_0
                      replace hx106_1 := (cell_far (p := ⟨gb105, 0, none⟩) (by first | (rw [add_block]; exact hn106_0)) (.string ((rd_T94 l0_2 x10_1).f0))).trans hx106_1
                      replace hx106_2 := (cell_far (p := ⟨gb105, 0, none⟩) (by first | (rw [add_block]; exact hn106_0)) (.string ((rd_T94 l0_2 x10_1).f0))).trans hx106_2
                      replace hx106_3 := (cell_far (p := ⟨gb105, 0, none⟩) (by first | (rw [add_block]; exact hn106_0)) (.string ((rd_T94 l0_2 x10_1).f0))).trans hx106_3
                      replace hx106_4 := (cell_far (p := ⟨gb105, 0, none⟩) (by first | (rw [add_block]; exact hn106_0)) (.string ((rd_T94 l0_2 x10_1).f0))).trans hx106_4
                      replace hx106_5 := (cell_far (p := ⟨gb105, 0, none⟩) (by first | (rw [add_block]; exact hn106_0)) (.string ((rd_T94 l0_2 x10_1).f0))).trans hx106_5
                      replace hx106_6 := (cell_far (p := ⟨gb105, 0, none⟩) (by first | (rw [add_block]; exact hn106_0)) (.string ((rd_T94 l0_2 x10_1).f0))).trans hx106_6
                      replace hx106_0 := (cell_far (p := ⟨gb105, 1, none⟩) (by first | (rw [add_block]; exact hn106_1)) (.int .i64 ((rd_T94 l0_2 x10_1).f1))).trans hx106_0
                      replace hx106_1 := (cell_far (p := ⟨gb105, 1, none⟩) (by first | (rw [add_block]; exact hn106_1)) (.int .i64 ((rd_T94 l0_2 x10_1).f1))).trans hx106_1
                      replace hx106_2 := (cell_far (p := ⟨gb105, 1, none⟩) (by first | (rw [add_block]; exact hn106_1)) (.int .i64 ((rd_T94 l0_2 x10_1).f1))).trans hx106_2
                      replace hx106_3 := (cell_far (p := ⟨gb105, 1, none⟩) (by first | (rw [add_block]; exact hn106_1)) (.int .i64 ((rd_T94 l0_2 x10_1).f1))).trans hx106_3
                      replace hx106_4 := (cell_far (p := ⟨gb105, 1, none⟩) (by first | (rw [add_block]; exact hn106_1)) (.int .i64 ((rd_T94 l0_2 x10_1).f1))).trans hx106_4
                      replace hx106_5 := (cell_far (p := ⟨gb105, 1, none⟩) (by first | (rw [add_block]; exact hn106_1)) (.int .i64 ((rd_T94 l0_2 x10_1).f1))).trans hx106_5
                      replace hx106_6 := (cell_far (p := ⟨gb105, 1, none⟩) (by first | (rw [add_block]; exact hn106_1)) (.int .i64 ((rd_T94 l0_2 x10_1).f1))).trans hx106_6
                      replace hx106_0 := (cell_far (p := ⟨gb105, 2, none⟩) (by first | (rw [add_block]; exact hn106_2)) (.int .i64 ((rd_T94 l0_2 x10_1).f2))).trans hx106_0
                      replace hx106_1 := (cell_far (p := ⟨gb105, 2, none⟩) (by first | (rw [add_block]; exact hn106_2)) (.int .i64 ((rd_T94 l0_2 x10_1).f2))).trans hx106_1
                      replace hx106_2 := (cell_far (p := ⟨gb105, 2, none⟩) (by first | (rw [add_block]; exact hn106_2)) (.int .i64 ((rd_T94 l0_2 x10_1).f2))).trans hx106_2
                      replace hx106_3 := (cell_far (p := ⟨gb105, 2, none⟩) (by first | (rw [add_block]; exact hn106_2)) (.int .i64 ((rd_T94 l0_2 x10_1).f2))).trans hx106_3
                      replace hx106_4 := (cell_far (p := ⟨gb105, 2, none⟩) (by first | (rw [add_block]; exact hn106_2)) (.int .i64 ((rd_T94 l0_2 x10_1).f2))).trans hx106_4
                      replace hx106_5 := (cell_far (p := ⟨gb105, 2, none⟩) (by first | (rw [add_block]; exact hn106_2)) (.int .i64 ((rd_T94 l0_2 x10_1).f2))).trans hx106_5
                      replace hx106_6 := (cell_far (p := ⟨gb105, 2, none⟩) (by first | (rw [add_block]; exact hn106_2)) (.int .i64 ((rd_T94 l0_2 x10_1).f2))).trans hx106_6
                      replace hx106_0 := (cell_far (p := ⟨gb105, 3, none⟩) (by first | (rw [add_block]; exact hn106_3)) (.int .i64 ((rd_T94 l0_2 x10_1).f3))).trans hx106_0
                      replace hx106_1 := (cell_far (p := ⟨gb105, 3, none⟩) (by first | (rw [add_block]; exact hn106_3)) (.int .i64 ((rd_T94 l0_2 x10_1).f3))).trans hx106_1
                      replace hx106_2 := (cell_far (p := ⟨gb105, 3, none⟩) (by first | (rw [add_block]; exact hn106_3)) (.int .i64 ((rd_T94 l0_2 x10_1).f3))).trans hx106_2
                      replace hx106_3 := (cell_far (p := ⟨gb105, 3, none⟩) (by first | (rw [add_block]; exact hn106_3)) (.int .i64 ((rd_T94 l0_2 x10_1).f3))).trans hx106_3
                      replace hx106_4 := (cell_far (p := ⟨gb105, 3, none⟩) (by first | (rw [add_block]; exact hn106_3)) (.int .i64 ((rd_T94 l0_2 x10_1).f3))).trans hx106_4
                      replace hx106_5 := (cell_far (p := ⟨gb105, 3, none⟩) (by first | (rw [add_block]; exact hn106_3)) (.int .i64 ((rd_T94 l0_2 x10_1).f3))).trans hx106_5
                      replace hx106_6 := (cell_far (p := ⟨gb105, 3, none⟩) (by first | (rw [add_block]; exact hn106_3)) (.int .i64 ((rd_T94 l0_2 x10_1).f3))).trans hx106_6
                      clear hn106_0
                      clear hn106_1
                      clear hn106_2
                      clear hn106_3
                      replace p106 := eq_true p106
                      replace q106 := eq_true q106
                      go_wp2
                      go_meet
                      case rel => exact ⟨_, (decide (((rd_T96 l0_0 ((rd_T94 l0_2 x10_1).f1)).f1) > 16)), rfl, H', ⟨by have := HK1.out; first | omega⟩, ⟨by exact Kd.R_mono (Kd.R_far (p := ⟨gb105, 3, none⟩) (Kd.R_far (p := ⟨gb105, 2, none⟩) (Kd.R_far (p := ⟨gb105, 1, none⟩) (Kd.R_far (p := ⟨gb105, 0, none⟩) (Kd.R_types HO_104003.out BK105.out (by decide)) (fun _ hk => hk.2) (.string ((rd_T94 l0_2 x10_1).f0))) (fun _ hk => hk.2) (.int .i64 ((rd_T94 l0_2 x10_1).f1))) (fun _ hk => hk.2) (.int .i64 ((rd_T94 l0_2 x10_1).f2))) (fun _ hk => hk.2) (.int .i64 ((rd_T94 l0_2 x10_1).f3))) (fun _ hk => trivial)⟩, ⟨by refine blk_far ?_ NB101_105.out _; refine blk_far ?_ NB101_105.out _; refine blk_far ?_ NB101_105.out _; refine blk_far ?_ NB101_105.out _; exact BK101.out⟩, ⟨by refine blk_far ?_ NB102_105.out _; refine blk_far ?_ NB102_105.out _; refine blk_far ?_ NB102_105.out _; refine blk_far ?_ NB102_105.out _; exact BK102.out⟩, ⟨by refine blk_far ?_ NB103_105.out _; refine blk_far ?_ NB103_105.out _; refine blk_far ?_ NB103_105.out _; refine blk_far ?_ NB103_105.out _; exact BK103.out⟩, ⟨by refine blk_put (cs := #[.string ((rd_T94 l0_2 x10_1).f0), .int .i64 ((rd_T94 l0_2 x10_1).f1), .int .i64 ((rd_T94 l0_2 x10_1).f2), .int .i64 0]) ?_ 3 _ rfl; refine blk_put (cs := #[.string ((rd_T94 l0_2 x10_1).f0), .int .i64 ((rd_T94 l0_2 x10_1).f1), .int .i64 0, .int .i64 0]) ?_ 2 _ rfl; refine blk_put (cs := #[.string ((rd_T94 l0_2 x10_1).f0), .int .i64 0, .int .i64 0, .int .i64 0]) ?_ 1 _ rfl; refine blk_put (cs := #[.string (⟨#[]⟩ : ByteArray), .int .i64 0, .int .i64 0, .int .i64 0]) ?_ 0 _ rfl; exact BK105.out⟩, ⟨by repeat (first | (with_reducible first | exact HB.out | refine below_set ?_ GE105.out))⟩⟩
                    · rw [if_neg c31] at H
                      exact absurd H (by simp)
                  · rw [if_neg c30] at H
                    exact absurd H (by simp)
            case rest =>
              clear HC11
              try clear c1
              try clear p1
              try clear q1
              try clear hx1
              try clear c2
              try clear p2
              try clear c3
              try clear c5
              try clear c6
              try clear c8
              try clear c8b0
              try clear c9
              try clear c9b0
              try clear c10
              try clear c10b0
              try clear p10
              try clear q10
              try clear hx10
              try clear c13
              try clear c14
              try clear c15
              try clear c17
              try clear c17b0
              try clear c18
              try clear c19
              try clear c20
              try clear c22
              try clear c22b0
              try clear c23
              try clear c24
              try clear c25
              try clear c27
              try clear c28
              try clear c30
              try clear c30b0
              try clear c31
              try clear c31b0
              try clear c32
              try clear c33
              try clear c34
              try clear c36
              try clear c37
              try clear hcz16_0
              try clear hcz16_1
              try clear hcz16_2
              try clear hcz16_3
              try clear hcz21_0
              try clear hcz21_1
              try clear hcz21_2
              try clear hcz21_3
              try clear hcz26_0
              try clear hcz26_1
              try clear hcz26_2
              try clear hcz26_3
              try clear hcz29_0
              try clear hcz29_1
              try clear hcz29_2
              try clear hcz29_3
              try clear hcz29_4
              try clear hcz35_0
              try clear hcz35_1
              try clear hcz35_2
              try clear hcz35_3
              try clear hcz38_0
              try clear hcz38_1
              try clear hcz38_2
              try clear hcz38_3
              try clear hcz38_4
              try clear hcz7_0
              try clear hcz7_1
              try clear hcz7_2
              try clear hcz7_3
              try clear hcz7_4
              try clear hfz16_0
              try clear hfz16_1
              try clear hfz16_2
              try clear hfz16_3
              try clear hfz21_0
              try clear hfz21_1
              try clear hfz21_2
              try clear hfz21_3
              try clear hfz26_0
              try clear hfz26_1
              try clear hfz26_2
              try clear hfz26_3
              try clear hfz29_0
              try clear hfz29_1
              try clear hfz29_2
              try clear hfz29_3
              try clear hfz29_4
              try clear hfz35_0
              try clear hfz35_1
              try clear hfz35_2
              try clear hfz35_3
              try clear hfz38_0
              try clear hfz38_1
              try clear hfz38_2
              try clear hfz38_3
              try clear hfz38_4
              try clear hfz7_0
              try clear hfz7_1
              try clear hfz7_2
              try clear hfz7_3
              try clear hfz7_4
              try clear hx104_0
              try clear hx104_1
              try clear hx104_2
              try clear hx104_3
              try clear hx106_0
              try clear hx106_1
              try clear hx106_2
              try clear hx106_3
              try clear hx106_4
              try clear hx106_5
              try clear hx106_6
              try clear p104
              try clear p106
              try clear p2
              try clear q104
              try clear q106
              obtain ⟨kq, x35_10, rfl, HA, HJ10, HO_104003, BK101, BK102, BK103, BK105, HB⟩ := hcut
              cases kq with
              | zero => exact absurd HA.out (by simp [report_bits.j1])
              | succ kj10 =>
                have H := HA.out
                clear HA
                simp only [report_bits.j1] at H
                by_cases c39 : x35_10 = true
                · subst c39
                  have H1 : (report_bits.l0 kj10 l0_2 (l0_2.length : Int) (wrap64 (x10_1 + 1)) l0_0 l0_1 l0_2 l0_3 l0_4 0 x104003_1) = some (r1, r2, r3, r4, r5) := by rw [if_pos rfl] at H; exact H
                  clear H
                  have H := H1
                  clear H1
                  have H' := Aside0.mk H
                  clear H
                  go_wp2
                  go_roundg kj10
                  case measure => have := HK1.out; have := HJ10.out; omega
                  case rel => exact ⟨(wrap64 (x10_1 + 1)), (x104003_1), (u104003), rfl, H', ⟨by have := HK1.out; have := HJ10.out; omega⟩, ⟨by exact HO_104003.out⟩, ⟨by exact BK101.out⟩, ⟨by exact BK102.out⟩, ⟨by exact BK103.out⟩, ⟨by exact HB.out⟩⟩
                · replace c39 := Bool.eq_false_iff.mpr c39
                  subst c39
                  have H1 : (if 0 ≤ ((rd_T94 l0_2 x10_1).f1) then (if ((rd_T94 l0_2 x10_1).f1) < (l0_0.length : Int) then (report_bits.l1 kj10 x10_1 l0_2 (l0_2.length : Int) x10_1 (mx ((rd_T96 l0_0 ((rd_T94 l0_2 x10_1).f1)).f1) 0) 0 l0_0 l0_1 l0_2 l0_3 l0_4 0 x104003_1) else (none)) else (none)) = some (r1, r2, r3, r4, r5) := by rw [if_neg (show ¬ (false = true) by decide)] at H; exact H
                  clear H
                  have H := H1
                  clear H1
                  by_cases c40 : 0 ≤ ((rd_T94 l0_2 x10_1).f1)
                  · rw [if_pos c40] at H
                    have c40b0 : decide (0 ≤ ((rd_T94 l0_2 x10_1).f1)) = true := decide_eq_true c40
                    clear c40
                    by_cases c41 : ((rd_T94 l0_2 x10_1).f1) < (l0_0.length : Int)
                    · rw [if_pos c41] at H
                      have c41b0 : decide (((rd_T94 l0_2 x10_1).f1) < (l0_0.length : Int)) = true := decide_eq_true c41
                      clear c41
                      obtain ⟨ji42, hji42⟩ : ∃ j_ : Int, (mx ((rd_T96 l0_0 ((rd_T94 l0_2 x10_1).f1)).f1) 0) = j_ := ⟨_, rfl⟩
                      replace H : (report_bits.l1 kj10 x10_1 l0_2 (l0_2.length : Int) x10_1 ji42 0 l0_0 l0_1 l0_2 l0_3 l0_4 0 x104003_1) = some (r1, r2, r3, r4, r5) := by first | (rw [hji42] at H; exact H)
                      have hji42_ : (if ((rd_T96 l0_0 ((rd_T94 l0_2 x10_1).f1)).f1) < 0 then 0 else ((rd_T96 l0_0 ((rd_T94 l0_2 x10_1).f1)).f1)) = ji42 := hji42
                      have H' := Aside0.mk H
                      clear H
                      have hnb43 := NB101_102.out
                      have hnc43 := NB102_101.out
                      have hnb44 := NB101_103.out
                      have hnc44 := NB103_101.out
                      have hnb45 := NB101_105.out
                      have hnc45 := NB105_101.out
                      have hcz46_0 : wc.cell? ⟨gb101, 0, none⟩ = some (.slice A0_0 l0_0.length c0_0) := (blk_cell BK101.out 0).trans rfl
                      have hcz46_1 : wc.cell? ⟨gb101, 1, none⟩ = some (.slice A0_1 l0_1.length c0_1) := (blk_cell BK101.out 1).trans rfl
                      have hcz46_2 : wc.cell? ⟨gb101, 2, none⟩ = some (.slice (some ad104) l0_2.length c0_2) := (blk_cell BK101.out 2).trans rfl
                      have hcz46_3 : wc.cell? ⟨gb101, 3, none⟩ = some (.slice A0_3 l0_3.length c0_3) := (blk_cell BK101.out 3).trans rfl
                      have hcz46_4 : wc.cell? ⟨gb101, 4, none⟩ = some (.slice A0_4 l0_4.length c0_4) := (blk_cell BK101.out 4).trans rfl
                      have hfz46_0 := blk_frozen BK101.out 0
                      have hfz46_1 := blk_frozen BK101.out 1
                      have hfz46_2 := blk_frozen BK101.out 2
                      have hfz46_3 := blk_frozen BK101.out 3
                      have hfz46_4 := blk_frozen BK101.out 4
                      have hnb47 := NB105_102.out
                      have hnc47 := NB102_105.out
                      have hnb48 := NB105_103.out
                      have hnc48 := NB103_105.out
                      have hcz49_0 : wc.cell? ⟨gb105, 0, none⟩ = some (.string ((rd_T94 l0_2 x10_1).f0)) := (blk_cell BK105.out 0).trans rfl
                      have hcz49_1 : wc.cell? ⟨gb105, 1, none⟩ = some (.int .i64 ((rd_T94 l0_2 x10_1).f1)) := (blk_cell BK105.out 1).trans rfl
                      have hcz49_2 : wc.cell? ⟨gb105, 2, none⟩ = some (.int .i64 ((rd_T94 l0_2 x10_1).f2)) := (blk_cell BK105.out 2).trans rfl
                      have hcz49_3 : wc.cell? ⟨gb105, 3, none⟩ = some (.int .i64 ((rd_T94 l0_2 x10_1).f3)) := (blk_cell BK105.out 3).trans rfl
                      have hfz49_0 := blk_frozen BK105.out 0
                      have hfz49_1 := blk_frozen BK105.out 1
                      have hfz49_2 := blk_frozen BK105.out 2
                      have hfz49_3 := blk_frozen BK105.out 3
                      have p107 : 0 ≤ (((rd_T94 l0_2 x10_1).f1) : Int) := of_decide_eq_true (by first | (with_reducible assumption))
                      have q107 : ((rd_T94 l0_2 x10_1).f1) < (l0_0.length : Int) := of_decide_eq_true (by first | (with_reducible assumption))
                      obtain ⟨ad107, e107, hx107_0, hx107_1, hx107_2, hx107_3, hx107_4, hx107_5, hx107_6⟩ := at_T96 HR0_0.out ((rd_T94 l0_2 x10_1).f1) p107 q107
                      cases e107
                      replace hx107_0 := (HB.out.cell (World.block_lt_of_cell? w _ hx107_0)).trans hx107_0
                      replace hx107_1 := (HB.out.cell (World.block_lt_of_cell? w _ hx107_1)).trans hx107_1
                      replace hx107_2 := (HB.out.cell (World.block_lt_of_cell? w _ hx107_2)).trans hx107_2
                      replace hx107_3 := (HB.out.cell (World.block_lt_of_cell? w _ hx107_3)).trans hx107_3
                      replace hx107_4 := (HB.out.cell (World.block_lt_of_cell? w _ hx107_4)).trans hx107_4
                      replace hx107_5 := (HB.out.cell (World.block_lt_of_cell? w _ hx107_5)).trans hx107_5
                      replace hx107_6 := (HB.out.cell (World.block_lt_of_cell? w _ hx107_6)).trans hx107_6
                      replace p107 := eq_true p107
                      replace q107 := eq_true q107
                      go_wp2
                      try simp only [Act.put, List.setIfInBounds_toArray, List.set_cons_succ, List.set_cons_zero]
                      go_loopg [44] kj10 (fun kq v44 w' => ∃ (x44_3 : Int) (x104003_3 : List (S98)) (u104003 : Value), v44 = .int .i64 x44_3 ∧ Aside0 (report_bits.l1 kq x10_1 l0_2 (l0_2.length : Int) x10_1 ji42 x44_3 l0_0 l0_1 l0_2 l0_3 l0_4 0 x104003_3 = some (r1, r2, r3, r4, r5)) ∧ Aside0 (kq ≤ kj10) ∧ Aside0 (Kd.R k98 98 w' w.heap.size (fun _ => True) u104003 x104003_3) ∧ Aside0 (w'.heap[gb101]? = some (.cells #[(.slice (some ad107) l0_0.length c0_0), (.slice A0_1 l0_1.length c0_1), (.slice (some ad104) l0_2.length c0_2), (.slice A0_3 l0_3.length c0_3), (.slice A0_4 l0_4.length c0_4)] 27 (0, 0))) ∧ Aside0 (w'.heap[gb102]? = some (.cells #[.int .i64 0, (.slice none 0 0), (.slice none 0 0), (.slice none 0 0), (.slice none 0 0)] 53 (0, 0))) ∧ Aside0 (w'.heap[gb103]? = some (.cells #[.int .i64 0, (.slice none 0 0), (.slice none 0 0), u104003, (.slice none 0 0)] 53 (0, 0))) ∧ Aside0 (w'.heap[gb105]? = some (.cells #[.string ((rd_T94 l0_2 x10_1).f0), .int .i64 ((rd_T94 l0_2 x10_1).f1), .int .i64 ((rd_T94 l0_2 x10_1).f2), .int .i64 ((rd_T94 l0_2 x10_1).f3)] 94 (0, 0))) ∧ Aside0 (Below w.heap.size w w'))
                      case atStart => exact ⟨(0), (x104003_1), (u104003), rfl, H', ⟨Nat.le_refl _⟩, ⟨by exact HO_104003.out⟩, ⟨by exact BK101.out⟩, ⟨by exact BK102.out⟩, ⟨by exact BK103.out⟩, ⟨by exact BK105.out⟩, ⟨by exact HB.out⟩⟩
                      case round =>
                        clear H'
                        try clear c1
                        try clear p1
                        try clear q1
                        try clear hx1
                        try clear c2
                        try clear p2
                        try clear c3
                        try clear c4
                        try clear c5
                        try clear c6
                        try clear p6
                        try clear c8
                        try clear c8b0
                        try clear c9
                        try clear c9b0
                        try clear c10
                        try clear c10b0
                        try clear p10
                        try clear q10
                        try clear hx10
                        try clear c13
                        try clear c14
                        try clear c15
                        try clear c17
                        try clear c17b0
                        try clear c18
                        try clear c19
                        try clear c20
                        try clear c22
                        try clear c22b0
                        try clear c23
                        try clear c24
                        try clear c25
                        try clear c27
                        try clear c28
                        try clear c30
                        try clear c30b0
                        try clear c31
                        try clear c31b0
                        try clear c32
                        try clear c33
                        try clear c34
                        try clear c36
                        try clear c37
                        try clear c39
                        try clear c40
                        try clear c40b0
                        try clear c41
                        try clear c41b0
                        try clear c43
                        try clear c44
                        try clear c45
                        try clear c47
                        try clear c48
                        try clear hcz16_0
                        try clear hcz16_1
                        try clear hcz16_2
                        try clear hcz16_3
                        try clear hcz21_0
                        try clear hcz21_1
                        try clear hcz21_2
                        try clear hcz21_3
                        try clear hcz26_0
                        try clear hcz26_1
                        try clear hcz26_2
                        try clear hcz26_3
                        try clear hcz29_0
                        try clear hcz29_1
                        try clear hcz29_2
                        try clear hcz29_3
                        try clear hcz29_4
                        try clear hcz35_0
                        try clear hcz35_1
                        try clear hcz35_2
                        try clear hcz35_3
                        try clear hcz38_0
                        try clear hcz38_1
                        try clear hcz38_2
                        try clear hcz38_3
                        try clear hcz38_4
                        try clear hcz46_0
                        try clear hcz46_1
                        try clear hcz46_2
                        try clear hcz46_3
                        try clear hcz46_4
                        try clear hcz49_0
                        try clear hcz49_1
                        try clear hcz49_2
                        try clear hcz49_3
                        try clear hcz7_0
                        try clear hcz7_1
                        try clear hcz7_2
                        try clear hcz7_3
                        try clear hcz7_4
                        try clear hfz16_0
                        try clear hfz16_1
                        try clear hfz16_2
                        try clear hfz16_3
                        try clear hfz21_0
                        try clear hfz21_1
                        try clear hfz21_2
                        try clear hfz21_3
                        try clear hfz26_0
                        try clear hfz26_1
                        try clear hfz26_2
                        try clear hfz26_3
                        try clear hfz29_0
                        try clear hfz29_1
                        try clear hfz29_2
                        try clear hfz29_3
                        try clear hfz29_4
                        try clear hfz35_0
                        try clear hfz35_1
                        try clear hfz35_2
                        try clear hfz35_3
                        try clear hfz38_0
                        try clear hfz38_1
                        try clear hfz38_2
                        try clear hfz38_3
                        try clear hfz38_4
                        try clear hfz46_0
                        try clear hfz46_1
                        try clear hfz46_2
                        try clear hfz46_3
                        try clear hfz46_4
                        try clear hfz49_0
                        try clear hfz49_1
                        try clear hfz49_2
                        try clear hfz49_3
                        try clear hfz7_0
                        try clear hfz7_1
                        try clear hfz7_2
                        try clear hfz7_3
                        try clear hfz7_4
                        try clear hx104_0
                        try clear hx104_1
                        try clear hx104_2
                        try clear hx104_3
                        try clear hx106_0
                        try clear hx106_1
                        try clear hx106_2
                        try clear hx106_3
                        try clear hx106_4
                        try clear hx106_5
                        try clear hx106_6
                        try clear hx107_0
                        try clear hx107_1
                        try clear hx107_2
                        try clear hx107_3
                        try clear hx107_4
                        try clear hx107_5
                        try clear hx107_6
                        try clear p1
                        try clear p10
                        try clear p104
                        try clear p106
                        try clear p107
                        try clear p2
                        try clear q1
                        try clear q10
                        try clear q104
                        try clear q106
                        try clear q107
                        obtain ⟨x44_3, x104003_3, u104003, rfl, HA, HK3, HO_104003, BK101, BK102, BK103, BK105, HB⟩ := hrel
                        cases gk with
                        | zero => exact absurd HA.out (by simp [report_bits.l1])
                        | succ k3 =>
                          have H := HA.out
                          clear HA
                          simp only [report_bits.l1] at H
                          by_cases c50 : x44_3 < ji42
                          · rw [if_pos c50] at H
                            have c50b0 : decide (x44_3 < ji42) = true := decide_eq_true c50
                            clear c50
                            by_cases c51 : x104003_3.length < 3518437208883
                            · rw [if_pos c51] at H
                              have LMc51 := Aside0.mk c51
                              clear c51
                              obtain ⟨y108, hy108⟩ : ∃ y_ : List (S98), y_ = (x104003_3 ++ [(⟨0, 0, false, x10_1, x44_3⟩ : S98)]) := ⟨_, rfl⟩
                              replace H : (report_bits.l1 k3 x10_1 l0_2 (l0_2.length : Int) x10_1 ji42 (wrap64 (x44_3 + 1)) l0_0 l0_1 l0_2 l0_3 l0_4 0 y108) = some (r1, r2, r3, r4, r5) := by first | (rw [hy108]; with_reducible exact H)
                              have Ny108 := Aside0.mk hy108
                              clear hy108
                              have H' := Aside0.mk H
                              clear H
                              have hnb52 := NB103_101.out
                              have hnc52 := NB101_103.out
                              have hnb53 := NB103_102.out
                              have hnc53 := NB102_103.out
                              have hnb54 := NB103_105.out
                              have hnc54 := NB105_103.out
                              have hcz55_0 : wr.cell? ⟨gb103, 0, none⟩ = some (.int .i64 0) := (blk_cell BK103.out 0).trans rfl
                              have hcz55_1 : wr.cell? ⟨gb103, 1, none⟩ = some (.slice none 0 0) := (blk_cell BK103.out 1).trans rfl
                              have hcz55_2 : wr.cell? ⟨gb103, 2, none⟩ = some (.slice none 0 0) := (blk_cell BK103.out 2).trans rfl
                              have hcz55_3 : wr.cell? ⟨gb103, 3, none⟩ = some (u104003) := (blk_cell BK103.out 3).trans rfl
                              have hcz55_4 : wr.cell? ⟨gb103, 4, none⟩ = some (.slice none 0 0) := (blk_cell BK103.out 4).trans rfl
                              have hfz55_0 := blk_frozen BK103.out 0
                              have hfz55_1 := blk_frozen BK103.out 1
                              have hfz55_2 := blk_frozen BK103.out 2
                              have hfz55_3 := blk_frozen BK103.out 3
                              have hfz55_4 := blk_frozen BK103.out 4
                              go_wp2_with (first | ((with_reducible refine gate_builtin (b := .append) (xs := #[.tmp 48, .tmp 52]) rfl ?_); (try (refine gate_guard (by rfl) ?_; dsimp only)); at_builtin; refine Kd.R_append k98 (w0 := w) w.heap.size rfl (.tmp 48) (.tmp 52) 50 98 (.agg #[(.int .i64 0), (.int .i64 0), (.bool false), (.int .i64 0), (.int .i64 0)]) 40 rfl Tryd.underlying50 info98 rfl (by decide) (by omega) u104003 x104003_3 (⟨0, 0, false, x10_1, x44_3⟩ : S98) [.int .i64 0, .int .i64 0, .bool false, .int .i64 x10_1, .int .i64 x44_3] (fun _ => True) (fun _ => False) rfl rfl ?aP (fun _ hk => hk.elim) ?aF ?aO ?aB ?aS ?aL ?_; (case aP => exact k98_mkM _ _ _ (⟨0, 0, false, x10_1, x44_3⟩ : S98)); (case aB => exact HB.out); (case aF => exact (fun _ _ => trivial)); (case aO => exact HO_104003.out); (case aS => exact (below_size HB.out)); (case aL => have := LMc51.out; omega); intro v109 w56 ho hb hg hat; rw [← Ny108.out] at ho; have n0_ := Aside0.mk (blk_grown (g := gb101) (o := .cells #[.slice (some ad107) l0_0.length c0_0, .slice A0_1 l0_1.length c0_1, .slice (some ad104) l0_2.length c0_2, .slice A0_3 l0_3.length c0_3, .slice A0_4 l0_4.length c0_4] 27 (0, 0)) BK101.out hg (Kd.R_ne HO_104003.out BK101.out (by decide))); have n1_ := Aside0.mk (blk_grown (g := gb102) (o := .cells #[.int .i64 0, .slice none 0 0, .slice none 0 0, .slice none 0 0, .slice none 0 0] 53 (0, 0)) BK102.out hg (Kd.R_ne HO_104003.out BK102.out (by decide))); have n2_ := Aside0.mk (blk_grown (g := gb103) (o := .cells #[.int .i64 0, .slice none 0 0, .slice none 0 0, u104003, .slice none 0 0] 53 (0, 0)) BK103.out hg (Kd.R_ne HO_104003.out BK103.out (by decide))); have n3_ := Aside0.mk (blk_grown (g := gb105) (o := .cells #[.string ((rd_T94 l0_2 x10_1).f0), .int .i64 ((rd_T94 l0_2 x10_1).f1), .int .i64 ((rd_T94 l0_2 x10_1).f2), .int .i64 ((rd_T94 l0_2 x10_1).f3)] 94 (0, 0)) BK105.out hg (Kd.R_ne HO_104003.out BK105.out (by decide))); have n4_ := Aside0.mk (hb); have n5_ := Aside0.mk (ho); clear BK101; clear BK102; clear BK103; clear BK105; clear HB; clear HO_104003; have BK101 := n0_; have BK102 := n1_; have BK103 := n2_; have BK105 := n3_; have HB := n4_; have HO110 := n5_; clear n0_ n1_ n2_ n3_ n4_ n5_; clear ho hb hg hat; obtain ⟨Ao57, co57, eo57⟩ := Kd.R_slice HO110.out; subst eo57; have hcz58_0 : w56.cell? ⟨gb103, 0, none⟩ = some (.int .i64 0) := (blk_cell BK103.out 0).trans rfl; have hcz58_1 : w56.cell? ⟨gb103, 1, none⟩ = some (.slice none 0 0) := (blk_cell BK103.out 1).trans rfl; have hcz58_2 : w56.cell? ⟨gb103, 2, none⟩ = some (.slice none 0 0) := (blk_cell BK103.out 2).trans rfl; have hcz58_3 : w56.cell? ⟨gb103, 3, none⟩ = some (u104003) := (blk_cell BK103.out 3).trans rfl; have hcz58_4 : w56.cell? ⟨gb103, 4, none⟩ = some (.slice none 0 0) := (blk_cell BK103.out 4).trans rfl; have hfz58_0 := blk_frozen BK103.out 0; have hfz58_1 := blk_frozen BK103.out 1; have hfz58_2 := blk_frozen BK103.out 2; have hfz58_3 := blk_frozen BK103.out 3; have hfz58_4 := blk_frozen BK103.out 4))
                              go_roundg k3
                              case measure => have := HK1.out; have := HJ10.out; have := HK3.out; omega
                              case rel => exact ⟨(wrap64 (x44_3 + 1)), (y108), (.slice Ao57 y108.length co57), rfl, H', ⟨by have := HK1.out; have := HJ10.out; have := HK3.out; omega⟩, ⟨by exact Kd.R_mono (Kd.R_far (p := ⟨gb103, 3, none⟩) (Kd.R_types HO110.out BK103.out (by decide)) (fun _ hk => hk.2) (.slice Ao57 y108.length co57)) (fun _ hk => trivial)⟩, ⟨by refine blk_far ?_ NB101_103.out _; exact BK101.out⟩, ⟨by refine blk_far ?_ NB102_103.out _; exact BK102.out⟩, ⟨by refine blk_put (cs := #[.int .i64 0, .slice none 0 0, .slice none 0 0, u104003, .slice none 0 0]) ?_ 3 _ rfl; exact BK103.out⟩, ⟨by refine blk_far ?_ NB105_103.out _; exact BK105.out⟩, ⟨by repeat (first | (with_reducible first | exact HB.out | refine below_set ?_ GE103.out))⟩⟩
                            · rw [if_neg c51] at H
                              exact absurd H (by simp)
                          · rw [if_neg c50] at H
                            have c50b0 : decide (x44_3 < ji42) = false := decide_eq_false c50
                            clear c50
                            have H' := Aside0.mk H
                            clear H
                            go_wp2
                            go_roundg k3
                            case measure => have := HK1.out; have := HJ10.out; have := HK3.out; omega
                            case rel => exact ⟨(wrap64 (x10_1 + 1)), (x104003_3), (u104003), rfl, H', ⟨by have := HK1.out; have := HJ10.out; have := HK3.out; omega⟩, ⟨by exact HO_104003.out⟩, ⟨by exact BK101.out⟩, ⟨by exact BK102.out⟩, ⟨by exact BK103.out⟩, ⟨by exact HB.out⟩⟩
                    · rw [if_neg c41] at H
                      exact absurd H (by simp)
                  · rw [if_neg c40] at H
                    exact absurd H (by simp)
          · rw [if_neg c10] at H
            exact absurd H (by simp)
        · rw [if_neg c9] at H
          exact absurd H (by simp)
      · rw [if_neg c8] at H
        have c8b0 : decide (x10_1 < (l0_2.length : Int)) = false := decide_eq_false c8
        clear c8
        simp only [Option.some.injEq, Prod.mk.injEq] at H
        obtain ⟨rfl, rfl, rfl, rfl, rfl⟩ := H
        have hnb59 := NB103_101.out
        have hnc59 := NB101_103.out
        have hnb60 := NB103_102.out
        have hnc60 := NB102_103.out
        have hcz61_0 : wr.cell? ⟨gb103, 0, none⟩ = some (.int .i64 0) := (blk_cell BK103.out 0).trans rfl
        have hcz61_1 : wr.cell? ⟨gb103, 1, none⟩ = some (.slice none 0 0) := (blk_cell BK103.out 1).trans rfl
        have hcz61_2 : wr.cell? ⟨gb103, 2, none⟩ = some (.slice none 0 0) := (blk_cell BK103.out 2).trans rfl
        have hcz61_3 : wr.cell? ⟨gb103, 3, none⟩ = some (u104003) := (blk_cell BK103.out 3).trans rfl
        have hcz61_4 : wr.cell? ⟨gb103, 4, none⟩ = some (.slice none 0 0) := (blk_cell BK103.out 4).trans rfl
        have hfz61_0 := blk_frozen BK103.out 0
        have hfz61_1 := blk_frozen BK103.out 1
        have hfz61_2 := blk_frozen BK103.out 2
        have hfz61_3 := blk_frozen BK103.out 3
        have hfz61_4 := blk_frozen BK103.out 4
        have hnb62 := NB102_101.out
        have hnc62 := NB101_102.out
        have hcz63_0 : wr.cell? ⟨gb102, 0, none⟩ = some (.int .i64 0) := (blk_cell BK102.out 0).trans rfl
        have hcz63_1 : wr.cell? ⟨gb102, 1, none⟩ = some (.slice none 0 0) := (blk_cell BK102.out 1).trans rfl
        have hcz63_2 : wr.cell? ⟨gb102, 2, none⟩ = some (.slice none 0 0) := (blk_cell BK102.out 2).trans rfl
        have hcz63_3 : wr.cell? ⟨gb102, 3, none⟩ = some (.slice none 0 0) := (blk_cell BK102.out 3).trans rfl
        have hcz63_4 : wr.cell? ⟨gb102, 4, none⟩ = some (.slice none 0 0) := (blk_cell BK102.out 4).trans rfl
        have hfz63_0 := blk_frozen BK102.out 0
        have hfz63_1 := blk_frozen BK102.out 1
        have hfz63_2 := blk_frozen BK102.out 2
        have hfz63_3 := blk_frozen BK102.out 3
        have hfz63_4 := blk_frozen BK102.out 4
        obtain ⟨Ao64, co64, eo64⟩ := Kd.R_slice HO_104003.out
        subst eo64
        go_wp2
        refine bodyPost_ret (results_cell_row rfl _ _ gb102 53 #[.int .i64 0, .slice none 0 0, .slice none 0 0, .slice Ao64 x104003_1.length co64, .slice none 0 0] (0, 0) _ rfl (by refine blk_put (cs := #[.int .i64 0, .slice none 0 0, .slice none 0 0, .slice Ao64 x104003_1.length co64, .slice none 0 0]) ?_ 4 _ rfl; refine blk_put (cs := #[.int .i64 0, .slice none 0 0, .slice none 0 0, .slice none 0 0, .slice none 0 0]) ?_ 3 _ rfl; refine blk_put (cs := #[.int .i64 0, .slice none 0 0, .slice none 0 0, .slice none 0 0, .slice none 0 0]) ?_ 2 _ rfl; refine blk_put (cs := #[.int .i64 0, .slice none 0 0, .slice none 0 0, .slice none 0 0, .slice none 0 0]) ?_ 1 _ rfl; refine blk_put (cs := #[.int .i64 0, .slice none 0 0, .slice none 0 0, .slice none 0 0, .slice none 0 0]) ?_ 0 _ rfl; exact BK102.out) Tryd.underlying53 rfl (by kernel_rfl)) rfl ?_
        exact ⟨_, _, _, _, by first | rfl, by first | exact Kd.R_nil _ _ _ _ _, by first | exact Kd.R_nil _ _ _ _ _, by exact Kd.R_mono (Kd.R_far (p := ⟨gb102, 4, none⟩) (Kd.R_far (p := ⟨gb102, 3, none⟩) (Kd.R_far (p := ⟨gb102, 2, none⟩) (Kd.R_far (p := ⟨gb102, 1, none⟩) (Kd.R_far (p := ⟨gb102, 0, none⟩) (Kd.R_types HO_104003.out BK102.out (by decide)) (fun _ hk => hk.2) (.int .i64 0)) (fun _ hk => hk.2) (.slice none 0 0)) (fun _ hk => hk.2) (.slice none 0 0)) (fun _ hk => hk.2) (.slice Ao64 x104003_1.length co64)) (fun _ hk => hk.2) (.slice none 0 0)) (fun _ hk => trivial), by first | exact Kd.R_nil _ _ _ _ _, by repeat (first | (with_reducible first | exact HB.out | refine below_set ?_ GE102.out))⟩

end Go.Proofs.YtmfekngjhiofaaaDoor.Q
