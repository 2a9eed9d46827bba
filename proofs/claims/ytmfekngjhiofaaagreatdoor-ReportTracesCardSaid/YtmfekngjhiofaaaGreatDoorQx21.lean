-- Written by the session's own program (wip/tools/ownprint.py) for this claim: functions of the translation as plain Lean functions, and their contracts.
import Derived.Test.YtmfekngjhiofaaaGreatDoorQx0
namespace Go.Proofs.YtmfekngjhiofaaaGreatDoor.Q
open Go.RowKit Go.Proofs.YtmfekngjhiofaaaGreatDoorW.PrintWords Go.Proofs.YtmfekngjhiofaaaGreatDoorW.PrintLast Go.Proofs.YtmfekngjhiofaaaGreatDoorW.PrintMore
attribute [local go_sem] max2_int min2_int max_two min_two max_three min_three max_four min_four   -- for this text's walks alone
set_option linter.unusedVariables false
set_option linter.unusedSimpArgs false

-- BY HAND: function 17 (proofmarkref27_Clause)

-- NOT PRINTED: function 4 (proofmarklaw27_LiftSays)

/-! ### report_bits: function 58 -/
mutual
def report_bits.l0 : Nat → List (S114) → Int → Int → List (S125) → List (S72) → List (S114) → List (S105) → List (S72) → Int → List (S94) → Option (Int × (List (S199)) × (List (S200)) × (List (S94)) × (List (S202)))
  | 0, _, _, _, _, _, _, _, _, _, _ => none
  | k + 1, x8, x9, x10, x372000, x372001, x372002, x372003, x372004, x374000, x374003 => if x10 < x9 then (if 0 ≤ x10 then (if x10 < (x8.length : Int) then (if ((rd_T114 x8 x10).f1) < 0 then (report_bits.j1 k x10 x8 x9 x10 true x372000 x372001 x372002 x372003 x372004 x374000 x374003 ((rd_T114 x8 x10).f0) ((rd_T114 x8 x10).f1) ((rd_T114 x8 x10).f2) ((rd_T114 x8 x10).f3)) else (if ((rd_T114 x8 x10).f1) ≥ (x372000.length : Int) then (report_bits.j1 k x10 x8 x9 x10 true x372000 x372001 x372002 x372003 x372004 x374000 x374003 ((rd_T114 x8 x10).f0) ((rd_T114 x8 x10).f1) ((rd_T114 x8 x10).f2) ((rd_T114 x8 x10).f3)) else (if 0 ≤ ((rd_T114 x8 x10).f1) then (if ((rd_T114 x8 x10).f1) < (x372000.length : Int) then (report_bits.j1 k x10 x8 x9 x10 (decide (((rd_T125 x372000 ((rd_T114 x8 x10).f1)).f1) > 16)) x372000 x372001 x372002 x372003 x372004 x374000 x374003 ((rd_T114 x8 x10).f0) ((rd_T114 x8 x10).f1) ((rd_T114 x8 x10).f2) ((rd_T114 x8 x10).f3)) else (none)) else (none)))) else (none)) else (none)) else (some (x374000, ([] : List (S199)), ([] : List (S200)), x374003, ([] : List (S202))))
def report_bits.j1 : Nat → Int → List (S114) → Int → Int → Bool → List (S125) → List (S72) → List (S114) → List (S105) → List (S72) → Int → List (S94) → ByteArray → Int → Int → Int → Option (Int × (List (S199)) × (List (S200)) × (List (S94)) × (List (S202)))
  | 0, _, _, _, _, _, _, _, _, _, _, _, _, _, _, _, _ => none
  | k + 1, x4, x8, x9, x10, x35, x372000, x372001, x372002, x372003, x372004, x374000, x374003, x376000, x376001, x376002, x376003 => if x35 = true then (report_bits.l0 k x8 x9 (wrap64 (x10 + 1)) x372000 x372001 x372002 x372003 x372004 x374000 x374003) else (if 0 ≤ x376001 then (if x376001 < (x372000.length : Int) then (report_bits.l1 k x4 x8 x9 x10 (mx ((rd_T125 x372000 x376001).f1) 0) 0 x372000 x372001 x372002 x372003 x372004 x374000 x374003) else (none)) else (none))
def report_bits.l1 : Nat → Int → List (S114) → Int → Int → Int → Int → List (S125) → List (S72) → List (S114) → List (S105) → List (S72) → Int → List (S94) → Option (Int × (List (S199)) × (List (S200)) × (List (S94)) × (List (S202)))
  | 0, _, _, _, _, _, _, _, _, _, _, _, _, _ => none
  | k + 1, x4, x8, x9, x10, x43, x44, x372000, x372001, x372002, x372003, x372004, x374000, x374003 => if x44 < x43 then (if x374003.length < 3518437208883 then (report_bits.l1 k x4 x8 x9 x10 x43 (wrap64 (x44 + 1)) x372000 x372001 x372002 x372003 x372004 x374000 (x374003 ++ [(⟨0, 0, false, x4, x44⟩ : S94)])) else (none)) else (report_bits.l0 k x8 x9 (wrap64 (x10 + 1)) x372000 x372001 x372002 x372003 x372004 x374000 x374003)
end
def report_bits.f (k : Nat) (l0_0 : List (S125)) (l0_1 : List (S72)) (l0_2 : List (S114)) (l0_3 : List (S105)) (l0_4 : List (S72)) : Option (Int × (List (S199)) × (List (S200)) × (List (S94)) × (List (S202))) := report_bits.l0 k l0_2 (l0_2.length : Int) 0 l0_0 l0_1 l0_2 l0_3 l0_4 0 ([] : List (S94))
theorem report_bits.mono_l : ∀ k, (∀ y0 y1 y2 y3 y4 y5 y6 y7 y8 y9, LeO (report_bits.l0 k y0 y1 y2 y3 y4 y5 y6 y7 y8 y9) (report_bits.l0 (k + 1) y0 y1 y2 y3 y4 y5 y6 y7 y8 y9)) ∧ (∀ y0 y1 y2 y3 y4 y5 y6 y7 y8 y9 y10 y11 y12 y13 y14 y15, LeO (report_bits.j1 k y0 y1 y2 y3 y4 y5 y6 y7 y8 y9 y10 y11 y12 y13 y14 y15) (report_bits.j1 (k + 1) y0 y1 y2 y3 y4 y5 y6 y7 y8 y9 y10 y11 y12 y13 y14 y15)) ∧ (∀ y0 y1 y2 y3 y4 y5 y6 y7 y8 y9 y10 y11 y12, LeO (report_bits.l1 k y0 y1 y2 y3 y4 y5 y6 y7 y8 y9 y10 y11 y12) (report_bits.l1 (k + 1) y0 y1 y2 y3 y4 y5 y6 y7 y8 y9 y10 y11 y12))
  | 0 => ⟨fun _ _ _ _ _ _ _ _ _ _ r h => by simp [report_bits.l0] at h, fun _ _ _ _ _ _ _ _ _ _ _ _ _ _ _ _ r h => by simp [report_bits.j1] at h, fun _ _ _ _ _ _ _ _ _ _ _ _ _ r h => by simp [report_bits.l1] at h⟩
  | k + 1 => by
    obtain ⟨ih0, ih1, ih2⟩ := report_bits.mono_l k
    refine ⟨?_, ?_, ?_⟩
    · intro y0 y1 y2 y3 y4 y5 y6 y7 y8 y9
      unfold report_bits.l0
      repeat' first
      | (with_reducible exact ih0 _ _ _ _ _ _ _ _ _ _)
      | (with_reducible exact ih1 _ _ _ _ _ _ _ _ _ _ _ _ _ _ _ _)
      | (with_reducible exact ih2 _ _ _ _ _ _ _ _ _ _ _ _ _)
      | (with_reducible exact LeO.refl _)
      | (with_reducible exact LeO.none _)
      | (with_reducible refine LeO.ite ?_ ?_)
      | (with_reducible refine LeO.bind ?_ (fun _ => ?_))
      | exact ih0 _ _ _ _ _ _ _ _ _ _
      | exact ih1 _ _ _ _ _ _ _ _ _ _ _ _ _ _ _ _
      | exact ih2 _ _ _ _ _ _ _ _ _ _ _ _ _
      | exact LeO.none _
      | refine LeO.ite ?_ ?_
      | refine LeO.bind ?_ (fun _ => ?_)
    · intro y0 y1 y2 y3 y4 y5 y6 y7 y8 y9 y10 y11 y12 y13 y14 y15
      unfold report_bits.j1
      repeat' first
      | (with_reducible exact ih0 _ _ _ _ _ _ _ _ _ _)
      | (with_reducible exact ih1 _ _ _ _ _ _ _ _ _ _ _ _ _ _ _ _)
      | (with_reducible exact ih2 _ _ _ _ _ _ _ _ _ _ _ _ _)
      | (with_reducible exact LeO.refl _)
      | (with_reducible exact LeO.none _)
      | (with_reducible refine LeO.ite ?_ ?_)
      | (with_reducible refine LeO.bind ?_ (fun _ => ?_))
      | exact ih0 _ _ _ _ _ _ _ _ _ _
      | exact ih1 _ _ _ _ _ _ _ _ _ _ _ _ _ _ _ _
      | exact ih2 _ _ _ _ _ _ _ _ _ _ _ _ _
      | exact LeO.none _
      | refine LeO.ite ?_ ?_
      | refine LeO.bind ?_ (fun _ => ?_)
    · intro y0 y1 y2 y3 y4 y5 y6 y7 y8 y9 y10 y11 y12
      unfold report_bits.l1
      repeat' first
      | (with_reducible exact ih0 _ _ _ _ _ _ _ _ _ _)
      | (with_reducible exact ih1 _ _ _ _ _ _ _ _ _ _ _ _ _ _ _ _)
      | (with_reducible exact ih2 _ _ _ _ _ _ _ _ _ _ _ _ _)
      | (with_reducible exact LeO.refl _)
      | (with_reducible exact LeO.none _)
      | (with_reducible refine LeO.ite ?_ ?_)
      | (with_reducible refine LeO.bind ?_ (fun _ => ?_))
      | exact ih0 _ _ _ _ _ _ _ _ _ _
      | exact ih1 _ _ _ _ _ _ _ _ _ _ _ _ _ _ _ _
      | exact ih2 _ _ _ _ _ _ _ _ _ _ _ _ _
      | exact LeO.none _
      | refine LeO.ite ?_ ?_
      | refine LeO.bind ?_ (fun _ => ?_)
theorem report_bits.mono : ∀ a0 a1 a2 a3 a4 k, LeO (report_bits.f k a0 a1 a2 a3 a4) (report_bits.f (k + 1) a0 a1 a2 a3 a4) := by
  intro a0 a1 a2 a3 a4 k
  obtain ⟨ih0, ih1, ih2⟩ := report_bits.mono_l k
  unfold report_bits.f
  repeat' first
      | (with_reducible exact ih0 _ _ _ _ _ _ _ _ _ _)
      | (with_reducible exact ih1 _ _ _ _ _ _ _ _ _ _ _ _ _ _ _ _)
      | (with_reducible exact ih2 _ _ _ _ _ _ _ _ _ _ _ _ _)
      | (with_reducible exact LeO.refl _)
      | (with_reducible exact LeO.none _)
      | (with_reducible refine LeO.ite ?_ ?_)
      | (with_reducible refine LeO.bind ?_ (fun _ => ?_))
      | exact ih0 _ _ _ _ _ _ _ _ _ _
      | exact ih1 _ _ _ _ _ _ _ _ _ _ _ _ _ _ _ _
      | exact ih2 _ _ _ _ _ _ _ _ _ _ _ _ _
      | exact LeO.none _
      | refine LeO.ite ?_ ?_
      | refine LeO.bind ?_ (fun _ => ?_)
set_option maxHeartbeats 8000000 in
set_option maxRecDepth 100000 in
theorem report_bits.calls (k : Nat) (A0_0 : Option Addr) (c0_0 : Nat) (l0_0 : List (S125)) (A0_1 : Option Addr) (c0_1 : Nat) (l0_1 : List (S72)) (A0_2 : Option Addr) (c0_2 : Nat) (l0_2 : List (S114)) (A0_3 : Option Addr) (c0_3 : Nat) (l0_3 : List (S105)) (A0_4 : Option Addr) (c0_4 : Nat) (l0_4 : List (S72)) (r1 : Int) (r2 : List (S199)) (r3 : List (S200)) (r4 : List (S94)) (r5 : List (S202)) (w : World) (hr0_0 : Kd.C k125 w A0_0 l0_0.length l0_0) (hc0_0 : l0_0.length ≤ c0_0) (hr0_1 : Kd.C k72 w A0_1 l0_1.length l0_1) (hc0_1 : l0_1.length ≤ c0_1) (hr0_2 : Kd.C k114 w A0_2 l0_2.length l0_2) (hc0_2 : l0_2.length ≤ c0_2) (hr0_3 : Kd.C k105 w A0_3 l0_3.length l0_3) (hc0_3 : l0_3.length ≤ c0_3) (hr0_4 : Kd.C k72 w A0_4 l0_4.length l0_4) (hc0_4 : l0_4.length ≤ c0_4) (h : report_bits.f k l0_0 l0_1 l0_2 l0_3 l0_4 = some (r1, r2, r3, r4, r5)) :
    Calls Tryz.prog 58 #[.agg #[.slice A0_0 l0_0.length c0_0, .slice A0_1 l0_1.length c0_1, .slice A0_2 l0_2.length c0_2, .slice A0_3 l0_3.length c0_3, .slice A0_4 l0_4.length c0_4]] w fun e w' => ∃ v1_ v2_ v3_ v4_ : Value, e = .returned (.agg #[.int .i64 r1, v1_, v2_, v3_, v4_]) ∧ Kd.R k199 199 w' w.heap.size (fun _ => True) v1_ r2 ∧ Kd.R k200 200 w' w.heap.size (fun _ => True) v2_ r3 ∧ Kd.R k94 94 w' w.heap.size (fun _ => True) v3_ r4 ∧ Kd.R k202 202 w' w.heap.size (fun _ => True) v4_ r5 ∧ Below w.heap.size w w' := by
  have hu27 := Tryz.underlying27
  have hu35 := Tryz.underlying35
  have hu114 := Tryz.underlying114
  have hu94 := Tryz.underlying94
  have HR0_0 := Aside0.mk hr0_0
  have HC0_0 := Aside0.mk hc0_0
  clear hr0_0 hc0_0
  have HR0_1 := Aside0.mk hr0_1
  have HC0_1 := Aside0.mk hc0_1
  clear hr0_1 hc0_1
  have HR0_2 := Aside0.mk hr0_2
  have HC0_2 := Aside0.mk hc0_2
  clear hr0_2 hc0_2
  have HR0_3 := Aside0.mk hr0_3
  have HC0_3 := Aside0.mk hc0_3
  clear hr0_3 hc0_3
  have HR0_4 := Aside0.mk hr0_4
  have HC0_4 := Aside0.mk hc0_4
  clear hr0_4 hc0_4
  have HB := Aside0.mk (Below.refl w.heap.size w)
  have H : (report_bits.l0 k l0_2 (l0_2.length : Int) 0 l0_0 l0_1 l0_2 l0_3 l0_4 0 ([] : List (S94))) = some (r1, r2, r3, r4, r5) := h
  clear h
  have H' := Aside0.mk H
  clear H
  go_enter Tryz.func58, Tryz.ntmps58
  go_wp2_with (first | ((with_reducible refine gate_dst (N := 1) rfl ?_); (try (refine gate_guard (by rfl) ?_; dsimp only)); refine box_event ?hg (N := 1) ?hd (cs := #[.slice A0_0 l0_0.length c0_0, .slice A0_1 l0_1.length c0_1, .slice A0_2 l0_2.length c0_2, .slice A0_3 l0_3.length c0_3, .slice A0_4 l0_4.length c0_4]) (t := 27) ?hr ?_; (case hd => rfl); (case hg => rfl); (case hr => first | (go_simp; done)); intro gb371 hg w2 hbox hb; have n0_ := Aside0.mk (below_step HB.out hb); have n1_ := Aside0.mk (hbox); have n2_ := Aside0.mk ((by rw [hg]; exact (below_size HB.out) : w.heap.size ≤ gb371)); have n3_ := Aside0.mk ((by rw [hg]; exact (below_size HB.out) : w.heap.size ≤ gb371)); clear HB; have HB := n0_; have BK371 := n1_; have GW371 := n2_; have GE371 := n3_; clear n0_ n1_ n2_ n3_; clear hb hbox hg) | ((with_reducible refine gate_dst (N := 2) rfl ?_); (try (refine gate_guard (by rfl) ?_; dsimp only)); refine box_event ?hg (N := 2) ?hd (cs := #[.int .i64 0, .slice none 0 0, .slice none 0 0, .slice none 0 0, .slice none 0 0]) (t := 35) ?hr ?_; (case hd => rfl); (case hg => rfl); (case hr => first | (go_simp; done)); intro gb372 hg w3 hbox hb; have n0_ := Aside0.mk (blk_below BK371.out hb); have n1_ := Aside0.mk (below_step HB.out hb); have n2_ := Aside0.mk (hbox); have n3_ := Aside0.mk ((by rw [hg]; exact (below_size HB.out) : w.heap.size ≤ gb372)); have n4_ := Aside0.mk ((by rw [hg]; exact (below_size HB.out) : w.heap.size ≤ gb372)); have n5_ := Aside0.mk ((by rw [hg]; exact Nat.ne_of_lt (blk_lt BK371.out) : gb371 ≠ gb372)); have n6_ := Aside0.mk ((by rw [hg]; exact Nat.ne_of_gt (blk_lt BK371.out) : gb372 ≠ gb371)); clear BK371; clear HB; have BK371 := n0_; have HB := n1_; have BK372 := n2_; have GW372 := n3_; have GE372 := n4_; have NB371_372 := n5_; have NB372_371 := n6_; clear n0_ n1_ n2_ n3_ n4_ n5_ n6_; clear hb hbox hg) | ((with_reducible refine gate_dst (N := 3) rfl ?_); (try (refine gate_guard (by rfl) ?_; dsimp only)); refine box_event ?hg (N := 3) ?hd (cs := #[.int .i64 0, .slice none 0 0, .slice none 0 0, .slice none 0 0, .slice none 0 0]) (t := 35) ?hr ?_; (case hd => rfl); (case hg => rfl); (case hr => first | (go_simp; done)); intro gb373 hg w4 hbox hb; have n0_ := Aside0.mk (blk_below BK371.out hb); have n1_ := Aside0.mk (blk_below BK372.out hb); have n2_ := Aside0.mk (below_step HB.out hb); have n3_ := Aside0.mk (hbox); have n4_ := Aside0.mk ((by rw [hg]; exact (below_size HB.out) : w.heap.size ≤ gb373)); have n5_ := Aside0.mk ((by rw [hg]; exact (below_size HB.out) : w.heap.size ≤ gb373)); have n6_ := Aside0.mk ((by rw [hg]; exact Nat.ne_of_lt (blk_lt BK371.out) : gb371 ≠ gb373)); have n7_ := Aside0.mk ((by rw [hg]; exact Nat.ne_of_gt (blk_lt BK371.out) : gb373 ≠ gb371)); have n8_ := Aside0.mk ((by rw [hg]; exact Nat.ne_of_lt (blk_lt BK372.out) : gb372 ≠ gb373)); have n9_ := Aside0.mk ((by rw [hg]; exact Nat.ne_of_gt (blk_lt BK372.out) : gb373 ≠ gb372)); clear BK371; clear BK372; clear HB; have BK371 := n0_; have BK372 := n1_; have HB := n2_; have BK373 := n3_; have GW373 := n4_; have GE373 := n5_; have NB371_373 := n6_; have NB373_371 := n7_; have NB372_373 := n8_; have NB373_372 := n9_; clear n0_ n1_ n2_ n3_ n4_ n5_ n6_ n7_ n8_ n9_; clear hb hbox hg; have hnb5 := NB371_372.out; have hnc5 := NB372_371.out; have hnb6 := NB371_373.out; have hnc6 := NB373_371.out; have hcz7_0 : w4.cell? ⟨gb371, 0, none⟩ = some (.slice A0_0 l0_0.length c0_0) := (blk_cell BK371.out 0).trans rfl; have hcz7_1 : w4.cell? ⟨gb371, 1, none⟩ = some (.slice A0_1 l0_1.length c0_1) := (blk_cell BK371.out 1).trans rfl; have hcz7_2 : w4.cell? ⟨gb371, 2, none⟩ = some (.slice A0_2 l0_2.length c0_2) := (blk_cell BK371.out 2).trans rfl; have hcz7_3 : w4.cell? ⟨gb371, 3, none⟩ = some (.slice A0_3 l0_3.length c0_3) := (blk_cell BK371.out 3).trans rfl; have hcz7_4 : w4.cell? ⟨gb371, 4, none⟩ = some (.slice A0_4 l0_4.length c0_4) := (blk_cell BK371.out 4).trans rfl; have hfz7_0 := blk_frozen BK371.out 0; have hfz7_1 := blk_frozen BK371.out 1; have hfz7_2 := blk_frozen BK371.out 2; have hfz7_3 := blk_frozen BK371.out 3; have hfz7_4 := blk_frozen BK371.out 4))
  try simp only [Act.put, List.setIfInBounds_toArray, List.set_cons_succ, List.set_cons_zero]
  go_loopg [10] k (fun kq v10 w' => ∃ (x10_1 : Int) (x374003_1 : List (S94)) (u374003 : Value), v10 = .int .i64 x10_1 ∧ Aside0 (report_bits.l0 kq l0_2 (l0_2.length : Int) x10_1 l0_0 l0_1 l0_2 l0_3 l0_4 0 x374003_1 = some (r1, r2, r3, r4, r5)) ∧ Aside0 (kq ≤ k) ∧ Aside0 (Kd.R k94 94 w' w.heap.size (fun _ => True) u374003 x374003_1) ∧ Aside0 (w'.heap[gb371]? = some (.cells #[(.slice A0_0 l0_0.length c0_0), (.slice A0_1 l0_1.length c0_1), (.slice A0_2 l0_2.length c0_2), (.slice A0_3 l0_3.length c0_3), (.slice A0_4 l0_4.length c0_4)] 27 (0, 0))) ∧ Aside0 (w'.heap[gb372]? = some (.cells #[.int .i64 0, (.slice none 0 0), (.slice none 0 0), (.slice none 0 0), (.slice none 0 0)] 35 (0, 0))) ∧ Aside0 (w'.heap[gb373]? = some (.cells #[.int .i64 0, (.slice none 0 0), (.slice none 0 0), u374003, (.slice none 0 0)] 35 (0, 0))) ∧ Aside0 (Below w.heap.size w w'))
  case atStart => exact ⟨(0), (([] : List (S94))), (.slice none 0 0), rfl, H', ⟨Nat.le_refl _⟩, ⟨by first | exact Kd.R_nil _ _ _ _ _⟩, ⟨by exact BK371.out⟩, ⟨by exact BK372.out⟩, ⟨by exact BK373.out⟩, ⟨by exact HB.out⟩⟩
  case round =>
    clear H'
    try clear p2
    try clear c5
    try clear c6
    try clear hcz7_0
    try clear hcz7_1
    try clear hcz7_2
    try clear hcz7_3
    try clear hcz7_4
    try clear hfz7_0
    try clear hfz7_1
    try clear hfz7_2
    try clear hfz7_3
    try clear hfz7_4
    obtain ⟨x10_1, x374003_1, u374003, rfl, HA, HK1, HO_374003, BK371, BK372, BK373, HB⟩ := hrel
    cases gk with
    | zero => exact absurd HA.out (by simp [report_bits.l0])
    | succ k1 =>
      have H := HA.out
      clear HA
      simp only [report_bits.l0] at H
      by_cases c8 : x10_1 < (l0_2.length : Int)
      · rw [if_pos c8] at H
        have c8b0 : decide (x10_1 < (l0_2.length : Int)) = true := decide_eq_true c8
        clear c8
        by_cases c9 : 0 ≤ x10_1
        · rw [if_pos c9] at H
          have c9b0 : decide (0 ≤ x10_1) = true := decide_eq_true c9
          clear c9
          by_cases c10 : x10_1 < (l0_2.length : Int)
          · rw [if_pos c10] at H
            have c10b0 : decide (x10_1 < (l0_2.length : Int)) = true := decide_eq_true c10
            clear c10
            have HC11 := Aside0.mk H
            clear H
            have p374 : 0 ≤ (x10_1 : Int) := of_decide_eq_true (by first | (with_reducible assumption))
            have q374 : x10_1 < (l0_2.length : Int) := of_decide_eq_true (by first | (with_reducible assumption))
            obtain ⟨ad374, e374, hx374_0, hx374_1, hx374_2, hx374_3⟩ := at_T114 HR0_2.out x10_1 p374 q374
            cases e374
            replace hx374_0 := (HB.out.cell (World.block_lt_of_cell? w _ hx374_0)).trans hx374_0
            replace hx374_1 := (HB.out.cell (World.block_lt_of_cell? w _ hx374_1)).trans hx374_1
            replace hx374_2 := (HB.out.cell (World.block_lt_of_cell? w _ hx374_2)).trans hx374_2
            replace hx374_3 := (HB.out.cell (World.block_lt_of_cell? w _ hx374_3)).trans hx374_3
            replace p374 := eq_true p374
            replace q374 := eq_true q374
            go_upto_region 5 with (first | ((with_reducible refine gate_dst (N := 5) rfl ?_); (try (refine gate_guard (by rfl) ?_; dsimp only)); refine box_event ?hg (N := 5) ?hd (cs := #[.string (⟨#[]⟩ : ByteArray), .int .i64 0, .int .i64 0, .int .i64 0]) (t := 114) ?hr ?_; (case hd => rfl); (case hg => rfl); (case hr => first | (go_simp; done)); intro gb375 hg w12 hbox hb; have n0_ := Aside0.mk (Kd.R_below HO_374003.out hb); have n1_ := Aside0.mk (blk_below BK371.out hb); have n2_ := Aside0.mk (blk_below BK372.out hb); have n3_ := Aside0.mk (blk_below BK373.out hb); have n4_ := Aside0.mk (below_step HB.out hb); have n5_ := Aside0.mk (hbox); have n6_ := Aside0.mk ((by rw [hg]; exact (below_size HB.out) : w.heap.size ≤ gb375)); have n7_ := Aside0.mk ((by rw [hg]; exact (below_size HB.out) : w.heap.size ≤ gb375)); have n8_ := Aside0.mk ((by rw [hg]; exact Nat.ne_of_lt (blk_lt BK371.out) : gb371 ≠ gb375)); have n9_ := Aside0.mk ((by rw [hg]; exact Nat.ne_of_gt (blk_lt BK371.out) : gb375 ≠ gb371)); have n10_ := Aside0.mk ((by rw [hg]; exact Nat.ne_of_lt (blk_lt BK372.out) : gb372 ≠ gb375)); have n11_ := Aside0.mk ((by rw [hg]; exact Nat.ne_of_gt (blk_lt BK372.out) : gb375 ≠ gb372)); have n12_ := Aside0.mk ((by rw [hg]; exact Nat.ne_of_lt (blk_lt BK373.out) : gb373 ≠ gb375)); have n13_ := Aside0.mk ((by rw [hg]; exact Nat.ne_of_gt (blk_lt BK373.out) : gb375 ≠ gb373)); clear HO_374003; clear BK371; clear BK372; clear BK373; clear HB; have HO_374003 := n0_; have BK371 := n1_; have BK372 := n2_; have BK373 := n3_; have HB := n4_; have BK375 := n5_; have GW375 := n6_; have GE375 := n7_; have NB371_375 := n8_; have NB375_371 := n9_; have NB372_375 := n10_; have NB375_372 := n11_; have NB373_375 := n12_; have NB375_373 := n13_; clear n0_ n1_ n2_ n3_ n4_ n5_ n6_ n7_ n8_ n9_ n10_ n11_ n12_ n13_; clear hb hbox hg; have hnb13 := NB375_371.out; have hnc13 := NB371_375.out; have hnb14 := NB375_372.out; have hnc14 := NB372_375.out; have hnb15 := NB375_373.out; have hnc15 := NB373_375.out; have hcz16_0 : w12.cell? ⟨gb375, 0, none⟩ = some (.string (⟨#[]⟩ : ByteArray)) := (blk_cell BK375.out 0).trans rfl; have hcz16_1 : w12.cell? ⟨gb375, 1, none⟩ = some (.int .i64 0) := (blk_cell BK375.out 1).trans rfl; have hcz16_2 : w12.cell? ⟨gb375, 2, none⟩ = some (.int .i64 0) := (blk_cell BK375.out 2).trans rfl; have hcz16_3 : w12.cell? ⟨gb375, 3, none⟩ = some (.int .i64 0) := (blk_cell BK375.out 3).trans rfl; have hfz16_0 := blk_frozen BK375.out 0; have hfz16_1 := blk_frozen BK375.out 1; have hfz16_2 := blk_frozen BK375.out 2; have hfz16_3 := blk_frozen BK375.out 3))
            (try simp only [Act.put, List.setIfInBounds_toArray, List.set_cons_zero, List.set_cons_succ])
            go_cut [35] (fun v35 wc => ∃ (kq : Nat) (x35_10 : Bool), v35 = .bool x35_10 ∧ Aside0 (report_bits.j1 kq x10_1 l0_2 (l0_2.length : Int) x10_1 x35_10 l0_0 l0_1 l0_2 l0_3 l0_4 0 x374003_1 ((rd_T114 l0_2 x10_1).f0) ((rd_T114 l0_2 x10_1).f1) ((rd_T114 l0_2 x10_1).f2) ((rd_T114 l0_2 x10_1).f3) = some (r1, r2, r3, r4, r5)) ∧ Aside0 (kq ≤ k1) ∧ Aside0 (Kd.R k94 94 wc w.heap.size (fun _ => True) u374003 x374003_1) ∧ Aside0 (wc.heap[gb371]? = some (.cells #[(.slice A0_0 l0_0.length c0_0), (.slice A0_1 l0_1.length c0_1), (.slice (some ad374) l0_2.length c0_2), (.slice A0_3 l0_3.length c0_3), (.slice A0_4 l0_4.length c0_4)] 27 (0, 0))) ∧ Aside0 (wc.heap[gb372]? = some (.cells #[.int .i64 0, (.slice none 0 0), (.slice none 0 0), (.slice none 0 0), (.slice none 0 0)] 35 (0, 0))) ∧ Aside0 (wc.heap[gb373]? = some (.cells #[.int .i64 0, (.slice none 0 0), (.slice none 0 0), u374003, (.slice none 0 0)] 35 (0, 0))) ∧ Aside0 (wc.heap[gb375]? = some (.cells #[.string ((rd_T114 l0_2 x10_1).f0), .int .i64 ((rd_T114 l0_2 x10_1).f1), .int .i64 ((rd_T114 l0_2 x10_1).f2), .int .i64 ((rd_T114 l0_2 x10_1).f3)] 114 (0, 0))) ∧ Aside0 (Below w.heap.size w wc))
            case first =>
              have H := HC11.out
              clear HC11
              by_cases c17 : ((rd_T114 l0_2 x10_1).f1) < 0
              · rw [if_pos c17] at H
                have c17b0 : decide (((rd_T114 l0_2 x10_1).f1) < 0) = true := decide_eq_true c17
                clear c17
                (first | skip)
                have H' := Aside0.mk H
                clear H
                have hnb18 := NB375_371.out
                have hnc18 := NB371_375.out
                have hnb19 := NB375_372.out
                have hnc19 := NB372_375.out
                have hnb20 := NB375_373.out
                have hnc20 := NB373_375.out
                have hcz21_0 : w12.cell? ⟨gb375, 0, none⟩ = some (.string (⟨#[]⟩ : ByteArray)) := (blk_cell BK375.out 0).trans rfl
                have hcz21_1 : w12.cell? ⟨gb375, 1, none⟩ = some (.int .i64 0) := (blk_cell BK375.out 1).trans rfl
                have hcz21_2 : w12.cell? ⟨gb375, 2, none⟩ = some (.int .i64 0) := (blk_cell BK375.out 2).trans rfl
                have hcz21_3 : w12.cell? ⟨gb375, 3, none⟩ = some (.int .i64 0) := (blk_cell BK375.out 3).trans rfl
                have hfz21_0 := blk_frozen BK375.out 0
                have hfz21_1 := blk_frozen BK375.out 1
                have hfz21_2 := blk_frozen BK375.out 2
                have hfz21_3 := blk_frozen BK375.out 3
                go_wp2
                go_meet
                case rel => exact ⟨_, (true), rfl, H', ⟨by have := HK1.out; first | omega⟩, ⟨by exact Kd.R_mono (Kd.R_far (p := ⟨gb375, 3, none⟩) (Kd.R_far (p := ⟨gb375, 2, none⟩) (Kd.R_far (p := ⟨gb375, 1, none⟩) (Kd.R_far (p := ⟨gb375, 0, none⟩) (Kd.R_types HO_374003.out BK375.out (by decide)) (fun _ hk => hk.2) (.string ((rd_T114 l0_2 x10_1).f0))) (fun _ hk => hk.2) (.int .i64 ((rd_T114 l0_2 x10_1).f1))) (fun _ hk => hk.2) (.int .i64 ((rd_T114 l0_2 x10_1).f2))) (fun _ hk => hk.2) (.int .i64 ((rd_T114 l0_2 x10_1).f3))) (fun _ hk => trivial)⟩, ⟨by refine blk_far ?_ NB371_375.out _; refine blk_far ?_ NB371_375.out _; refine blk_far ?_ NB371_375.out _; refine blk_far ?_ NB371_375.out _; exact BK371.out⟩, ⟨by refine blk_far ?_ NB372_375.out _; refine blk_far ?_ NB372_375.out _; refine blk_far ?_ NB372_375.out _; refine blk_far ?_ NB372_375.out _; exact BK372.out⟩, ⟨by refine blk_far ?_ NB373_375.out _; refine blk_far ?_ NB373_375.out _; refine blk_far ?_ NB373_375.out _; refine blk_far ?_ NB373_375.out _; exact BK373.out⟩, ⟨by refine blk_put (cs := #[.string ((rd_T114 l0_2 x10_1).f0), .int .i64 ((rd_T114 l0_2 x10_1).f1), .int .i64 ((rd_T114 l0_2 x10_1).f2), .int .i64 0]) ?_ 3 _ rfl; refine blk_put (cs := #[.string ((rd_T114 l0_2 x10_1).f0), .int .i64 ((rd_T114 l0_2 x10_1).f1), .int .i64 0, .int .i64 0]) ?_ 2 _ rfl; refine blk_put (cs := #[.string ((rd_T114 l0_2 x10_1).f0), .int .i64 0, .int .i64 0, .int .i64 0]) ?_ 1 _ rfl; refine blk_put (cs := #[.string (⟨#[]⟩ : ByteArray), .int .i64 0, .int .i64 0, .int .i64 0]) ?_ 0 _ rfl; exact BK375.out⟩, ⟨by repeat (first | (with_reducible first | exact HB.out | refine below_set ?_ GE375.out))⟩⟩
              · rw [if_neg c17] at H
                have c17b0 : decide (((rd_T114 l0_2 x10_1).f1) < 0) = false := decide_eq_false c17
                clear c17
                (first | skip)
                by_cases c22 : ((rd_T114 l0_2 x10_1).f1) ≥ (l0_0.length : Int)
                · rw [if_pos c22] at H
                  have c22b0 : decide ((l0_0.length : Int) ≤ ((rd_T114 l0_2 x10_1).f1)) = true := decide_eq_true c22
                  clear c22
                  have H' := Aside0.mk H
                  clear H
                  have hnb23 := NB375_371.out
                  have hnc23 := NB371_375.out
                  have hnb24 := NB375_372.out
                  have hnc24 := NB372_375.out
                  have hnb25 := NB375_373.out
                  have hnc25 := NB373_375.out
                  have hcz26_0 : w12.cell? ⟨gb375, 0, none⟩ = some (.string (⟨#[]⟩ : ByteArray)) := (blk_cell BK375.out 0).trans rfl
                  have hcz26_1 : w12.cell? ⟨gb375, 1, none⟩ = some (.int .i64 0) := (blk_cell BK375.out 1).trans rfl
                  have hcz26_2 : w12.cell? ⟨gb375, 2, none⟩ = some (.int .i64 0) := (blk_cell BK375.out 2).trans rfl
                  have hcz26_3 : w12.cell? ⟨gb375, 3, none⟩ = some (.int .i64 0) := (blk_cell BK375.out 3).trans rfl
                  have hfz26_0 := blk_frozen BK375.out 0
                  have hfz26_1 := blk_frozen BK375.out 1
                  have hfz26_2 := blk_frozen BK375.out 2
                  have hfz26_3 := blk_frozen BK375.out 3
                  have hnb27 := NB371_372.out
                  have hnc27 := NB372_371.out
                  have hnb28 := NB371_373.out
                  have hnc28 := NB373_371.out
                  have hcz29_0 : w12.cell? ⟨gb371, 0, none⟩ = some (.slice A0_0 l0_0.length c0_0) := (blk_cell BK371.out 0).trans rfl
                  have hcz29_1 : w12.cell? ⟨gb371, 1, none⟩ = some (.slice A0_1 l0_1.length c0_1) := (blk_cell BK371.out 1).trans rfl
                  have hcz29_2 : w12.cell? ⟨gb371, 2, none⟩ = some (.slice (some ad374) l0_2.length c0_2) := (blk_cell BK371.out 2).trans rfl
                  have hcz29_3 : w12.cell? ⟨gb371, 3, none⟩ = some (.slice A0_3 l0_3.length c0_3) := (blk_cell BK371.out 3).trans rfl
                  have hcz29_4 : w12.cell? ⟨gb371, 4, none⟩ = some (.slice A0_4 l0_4.length c0_4) := (blk_cell BK371.out 4).trans rfl
                  have hfz29_0 := blk_frozen BK371.out 0
                  have hfz29_1 := blk_frozen BK371.out 1
                  have hfz29_2 := blk_frozen BK371.out 2
                  have hfz29_3 := blk_frozen BK371.out 3
                  have hfz29_4 := blk_frozen BK371.out 4
                  go_wp2
                  go_meet
                  case rel => exact ⟨_, (true), rfl, H', ⟨by have := HK1.out; first | omega⟩, ⟨by exact Kd.R_mono (Kd.R_far (p := ⟨gb375, 3, none⟩) (Kd.R_far (p := ⟨gb375, 2, none⟩) (Kd.R_far (p := ⟨gb375, 1, none⟩) (Kd.R_far (p := ⟨gb375, 0, none⟩) (Kd.R_types HO_374003.out BK375.out (by decide)) (fun _ hk => hk.2) (.string ((rd_T114 l0_2 x10_1).f0))) (fun _ hk => hk.2) (.int .i64 ((rd_T114 l0_2 x10_1).f1))) (fun _ hk => hk.2) (.int .i64 ((rd_T114 l0_2 x10_1).f2))) (fun _ hk => hk.2) (.int .i64 ((rd_T114 l0_2 x10_1).f3))) (fun _ hk => trivial)⟩, ⟨by refine blk_far ?_ NB371_375.out _; refine blk_far ?_ NB371_375.out _; refine blk_far ?_ NB371_375.out _; refine blk_far ?_ NB371_375.out _; exact BK371.out⟩, ⟨by refine blk_far ?_ NB372_375.out _; refine blk_far ?_ NB372_375.out _; refine blk_far ?_ NB372_375.out _; refine blk_far ?_ NB372_375.out _; exact BK372.out⟩, ⟨by refine blk_far ?_ NB373_375.out _; refine blk_far ?_ NB373_375.out _; refine blk_far ?_ NB373_375.out _; refine blk_far ?_ NB373_375.out _; exact BK373.out⟩, ⟨by refine blk_put (cs := #[.string ((rd_T114 l0_2 x10_1).f0), .int .i64 ((rd_T114 l0_2 x10_1).f1), .int .i64 ((rd_T114 l0_2 x10_1).f2), .int .i64 0]) ?_ 3 _ rfl; refine blk_put (cs := #[.string ((rd_T114 l0_2 x10_1).f0), .int .i64 ((rd_T114 l0_2 x10_1).f1), .int .i64 0, .int .i64 0]) ?_ 2 _ rfl; refine blk_put (cs := #[.string ((rd_T114 l0_2 x10_1).f0), .int .i64 0, .int .i64 0, .int .i64 0]) ?_ 1 _ rfl; refine blk_put (cs := #[.string (⟨#[]⟩ : ByteArray), .int .i64 0, .int .i64 0, .int .i64 0]) ?_ 0 _ rfl; exact BK375.out⟩, ⟨by repeat (first | (with_reducible first | exact HB.out | refine below_set ?_ GE375.out))⟩⟩
                · rw [if_neg c22] at H
                  have c22b0 : decide ((l0_0.length : Int) ≤ ((rd_T114 l0_2 x10_1).f1)) = false := decide_eq_false c22
                  clear c22
                  by_cases c30 : 0 ≤ ((rd_T114 l0_2 x10_1).f1)
                  · rw [if_pos c30] at H
                    have c30b0 : decide (0 ≤ ((rd_T114 l0_2 x10_1).f1)) = true := decide_eq_true c30
                    clear c30
                    by_cases c31 : ((rd_T114 l0_2 x10_1).f1) < (l0_0.length : Int)
                    · rw [if_pos c31] at H
                      have c31b0 : decide (((rd_T114 l0_2 x10_1).f1) < (l0_0.length : Int)) = true := decide_eq_true c31
                      clear c31
                      have H' := Aside0.mk H
                      clear H
                      have hnb32 := NB375_371.out
                      have hnc32 := NB371_375.out
                      have hnb33 := NB375_372.out
                      have hnc33 := NB372_375.out
                      have hnb34 := NB375_373.out
                      have hnc34 := NB373_375.out
                      have hcz35_0 : w12.cell? ⟨gb375, 0, none⟩ = some (.string (⟨#[]⟩ : ByteArray)) := (blk_cell BK375.out 0).trans rfl
                      have hcz35_1 : w12.cell? ⟨gb375, 1, none⟩ = some (.int .i64 0) := (blk_cell BK375.out 1).trans rfl
                      have hcz35_2 : w12.cell? ⟨gb375, 2, none⟩ = some (.int .i64 0) := (blk_cell BK375.out 2).trans rfl
                      have hcz35_3 : w12.cell? ⟨gb375, 3, none⟩ = some (.int .i64 0) := (blk_cell BK375.out 3).trans rfl
                      have hfz35_0 := blk_frozen BK375.out 0
                      have hfz35_1 := blk_frozen BK375.out 1
                      have hfz35_2 := blk_frozen BK375.out 2
                      have hfz35_3 := blk_frozen BK375.out 3
                      have hnb36 := NB371_372.out
                      have hnc36 := NB372_371.out
                      have hnb37 := NB371_373.out
                      have hnc37 := NB373_371.out
                      have hcz38_0 : w12.cell? ⟨gb371, 0, none⟩ = some (.slice A0_0 l0_0.length c0_0) := (blk_cell BK371.out 0).trans rfl
                      have hcz38_1 : w12.cell? ⟨gb371, 1, none⟩ = some (.slice A0_1 l0_1.length c0_1) := (blk_cell BK371.out 1).trans rfl
                      have hcz38_2 : w12.cell? ⟨gb371, 2, none⟩ = some (.slice (some ad374) l0_2.length c0_2) := (blk_cell BK371.out 2).trans rfl
                      have hcz38_3 : w12.cell? ⟨gb371, 3, none⟩ = some (.slice A0_3 l0_3.length c0_3) := (blk_cell BK371.out 3).trans rfl
                      have hcz38_4 : w12.cell? ⟨gb371, 4, none⟩ = some (.slice A0_4 l0_4.length c0_4) := (blk_cell BK371.out 4).trans rfl
                      have hfz38_0 := blk_frozen BK371.out 0
                      have hfz38_1 := blk_frozen BK371.out 1
                      have hfz38_2 := blk_frozen BK371.out 2
                      have hfz38_3 := blk_frozen BK371.out 3
                      have hfz38_4 := blk_frozen BK371.out 4
                      have p376 : 0 ≤ (((rd_T114 l0_2 x10_1).f1) : Int) := of_decide_eq_true (by first | (with_reducible assumption))
                      have q376 : ((rd_T114 l0_2 x10_1).f1) < (l0_0.length : Int) := of_decide_eq_true (by first | (with_reducible assumption))
                      obtain ⟨ad376, e376, hx376_0, hx376_1, hx376_2, hx376_3, hx376_4, hx376_5, hx376_6⟩ := at_T125 HR0_0.out ((rd_T114 l0_2 x10_1).f1) p376 q376
                      cases e376
                      have hn376_0 : ad376.block ≠ gb375 := Nat.ne_of_lt (Nat.lt_of_lt_of_le (by have := World.block_lt_of_cell? _ _ hx376_0; first | rwa [add_block] at this) GW375.out)
                      have hn376_1 : ad376.block ≠ gb375 := Nat.ne_of_lt (Nat.lt_of_lt_of_le (by have := World.block_lt_of_cell? _ _ hx376_0; first | rwa [add_block] at this) GW375.out)
                      have hn376_2 : ad376.block ≠ gb375 := Nat.ne_of_lt (Nat.lt_of_lt_of_le (by have := World.block_lt_of_cell? _ _ hx376_0; first | rwa [add_block] at this) GW375.out)
                      have hn376_3 : ad376.block ≠ gb375 := Nat.ne_of_lt (Nat.lt_of_lt_of_le (by have := World.block_lt_of_cell? _ _ hx376_0; first | rwa [add_block] at this) GW375.out)
                      replace hx376_0 := (HB.out.cell (World.block_lt_of_cell? w _ hx376_0)).trans hx376_0
                      replace hx376_1 := (HB.out.cell (World.block_lt_of_cell? w _ hx376_1)).trans hx376_1
                      replace hx376_2 := (HB.out.cell (World.block_lt_of_cell? w _ hx376_2)).trans hx376_2
                      replace hx376_3 := (HB.out.cell (World.block_lt_of_cell? w _ hx376_3)).trans hx376_3
                      replace hx376_4 := (HB.out.cell (World.block_lt_of_cell? w _ hx376_4)).trans hx376_4
                      replace hx376_5 := (HB.out.cell (World.block_lt_of_cell? w _ hx376_5)).trans hx376_5
                      replace hx376_6 := (HB.out.cell (World.block_lt_of_cell? w _ hx376_6)).trans hx376_6
                      replace hx376_0 := (cell_far (p := ⟨gb375, 0, none⟩) (by first | (rw [add_block]; exact hn376_0)) (.string ((rd_T114 l0_2 x10_1).f0))).trans hx376_0
                      replace hx376_1 := (cell_far (p := ⟨gb375, 0, none⟩) (by first | (rw [add_block]; exact hn376_0)) (.string ((rd_T114 l0_2 x10_1).f0))).trans hx376_1
                      replace hx376_2 := (cell_far (p := ⟨gb375, 0, none⟩) (by first | (rw [add_block]; exact hn376_0)) (.string ((rd_T114 l0_2 x10_1).f0))).trans hx376_2
                      replace hx376_3 := (cell_far (p := ⟨gb375, 0, none⟩) (by first | (rw [add_block]; exact hn376_0)) (.string ((rd_T114 l0_2 x10_1).f0))).trans hx376_3
                      replace hx376_4 := (cell_far (p := ⟨gb375, 0, none⟩) (by first | (rw [add_block]; exact hn376_0)) (.string ((rd_T114 l0_2 x10_1).f0))).trans hx376_4
                      replace hx376_5 := (cell_far (p := ⟨gb375, 0, none⟩) (by first | (rw [add_block]; exact hn376_0)) (.string ((rd_T114 l0_2 x10_1).f0))).trans hx376_5
                      replace hx376_6 := (cell_far (p := ⟨gb375, 0, none⟩) (by first | (rw [add_block]; exact hn376_0)) (.string ((rd_T114 l0_2 x10_1).f0))).trans hx376_6
                      replace hx376_0 := (cell_far (p := ⟨gb375, 1, none⟩) (by first | (rw [add_block]; exact hn376_1)) (.int .i64 ((rd_T114 l0_2 x10_1).f1))).trans hx376_0
                      replace hx376_1 := (cell_far (p := ⟨gb375, 1, none⟩) (by first | (rw [add_block]; exact hn376_1)) (.int .i64 ((rd_T114 l0_2 x10_1).f1))).trans hx376_1
                      replace hx376_2 := (cell_far (p := ⟨gb375, 1, none⟩) (by first | (rw [add_block]; exact hn376_1)) (.int .i64 ((rd_T114 l0_2 x10_1).f1))).trans hx376_2
                      replace hx376_3 := (cell_far (p := ⟨gb375, 1, none⟩) (by first | (rw [add_block]; exact hn376_1)) (.int .i64 ((rd_T114 l0_2 x10_1).f1))).trans hx376_3
                      replace hx376_4 := (cell_far (p := ⟨gb375, 1, none⟩) (by first | (rw [add_block]; exact hn376_1)) (.int .i64 ((rd_T114 l0_2 x10_1).f1))).trans hx376_4
                      replace hx376_5 := (cell_far (p := ⟨gb375, 1, none⟩) (by first | (rw [add_block]; exact hn376_1)) (.int .i64 ((rd_T114 l0_2 x10_1).f1))).trans hx376_5
                      replace hx376_6 := (cell_far (p := ⟨gb375, 1, none⟩) (by first | (rw [add_block]; exact hn376_1)) (.int .i64 ((rd_T114 l0_2 x10_1).f1))).trans hx376_6
                      replace hx376_0 := (cell_far (p := ⟨gb375, 2, none⟩) (by first | (rw [add_block]; exact hn376_2)) (.int .i64 ((rd_T114 l0_2 x10_1).f2))).trans hx376_0
                      replace hx376_1 := (cell_far (p := ⟨gb375, 2, none⟩) (by first | (rw [add_block]; exact hn376_2)) (.int .i64 ((rd_T114 l0_2 x10_1).f2))).trans hx376_1
                      replace hx376_2 := (cell_far (p := ⟨gb375, 2, none⟩) (by first | (rw [add_block]; exact hn376_2)) (.int .i64 ((rd_T114 l0_2 x10_1).f2))).trans hx376_2
                      replace hx376_3 := (cell_far (p := ⟨gb375, 2, none⟩) (by first | (rw [add_block]; exact hn376_2)) (.int .i64 ((rd_T114 l0_2 x10_1).f2))).trans hx376_3
                      replace hx376_4 := (cell_far (p := ⟨gb375, 2, none⟩) (by first | (rw [add_block]; exact hn376_2)) (.int .i64 ((rd_T114 l0_2 x10_1).f2))).trans hx376_4
                      replace hx376_5 := (cell_far (p := ⟨gb375, 2, none⟩) (by first | (rw [add_block]; exact hn376_2)) (.int .i64 ((rd_T114 l0_2 x10_1).f2))).trans hx376_5
                      replace hx376_6 := (cell_far (p := ⟨gb375, 2, none⟩) (by first | (rw [add_block]; exact hn376_2)) (.int .i64 ((rd_T114 l0_2 x10_1).f2))).trans hx376_6
                      replace hx376_0 := (cell_far (p := ⟨gb375, 3, none⟩) (by first | (rw [add_block]; exact hn376_3)) (.int .i64 ((rd_T114 l0_2 x10_1).f3))).trans hx376_0
                      replace hx376_1 := (cell_far (p := ⟨gb375, 3, none⟩) (by first | (rw [add_block]; exact hn376_3)) (.int .i64 ((rd_T114 l0_2 x10_1).f3))).trans hx376_1
                      replace hx376_2 := (cell_far (p := ⟨gb375, 3, none⟩) (by first | (rw [add_block]; exact hn376_3)) (.int .i64 ((rd_T114 l0_2 x10_1).f3))).trans hx376_2
                      replace hx376_3 := (cell_far (p := ⟨gb375, 3, none⟩) (by first | (rw [add_block]; exact hn376_3)) (.int .i64 ((rd_T114 l0_2 x10_1).f3))).trans hx376_3
                      replace hx376_4 := (cell_far (p := ⟨gb375, 3, none⟩) (by first | (rw [add_block]; exact hn376_3)) (.int .i64 ((rd_T114 l0_2 x10_1).f3))).trans hx376_4
                      replace hx376_5 := (cell_far (p := ⟨gb375, 3, none⟩) (by first | (rw [add_block]; exact hn376_3)) (.int .i64 ((rd_T114 l0_2 x10_1).f3))).trans hx376_5
                      replace hx376_6 := (cell_far (p := ⟨gb375, 3, none⟩) (by first | (rw [add_block]; exact hn376_3)) (.int .i64 ((rd_T114 l0_2 x10_1).f3))).trans hx376_6
                      clear hn376_0
                      clear hn376_1
                      clear hn376_2
                      clear hn376_3
                      replace p376 := eq_true p376
                      replace q376 := eq_true q376
                      go_wp2
                      go_meet
                      case rel => exact ⟨_, (decide (((rd_T125 l0_0 ((rd_T114 l0_2 x10_1).f1)).f1) > 16)), rfl, H', ⟨by have := HK1.out; first | omega⟩, ⟨by exact Kd.R_mono (Kd.R_far (p := ⟨gb375, 3, none⟩) (Kd.R_far (p := ⟨gb375, 2, none⟩) (Kd.R_far (p := ⟨gb375, 1, none⟩) (Kd.R_far (p := ⟨gb375, 0, none⟩) (Kd.R_types HO_374003.out BK375.out (by decide)) (fun _ hk => hk.2) (.string ((rd_T114 l0_2 x10_1).f0))) (fun _ hk => hk.2) (.int .i64 ((rd_T114 l0_2 x10_1).f1))) (fun _ hk => hk.2) (.int .i64 ((rd_T114 l0_2 x10_1).f2))) (fun _ hk => hk.2) (.int .i64 ((rd_T114 l0_2 x10_1).f3))) (fun _ hk => trivial)⟩, ⟨by refine blk_far ?_ NB371_375.out _; refine blk_far ?_ NB371_375.out _; refine blk_far ?_ NB371_375.out _; refine blk_far ?_ NB371_375.out _; exact BK371.out⟩, ⟨by refine blk_far ?_ NB372_375.out _; refine blk_far ?_ NB372_375.out _; refine blk_far ?_ NB372_375.out _; refine blk_far ?_ NB372_375.out _; exact BK372.out⟩, ⟨by refine blk_far ?_ NB373_375.out _; refine blk_far ?_ NB373_375.out _; refine blk_far ?_ NB373_375.out _; refine blk_far ?_ NB373_375.out _; exact BK373.out⟩, ⟨by refine blk_put (cs := #[.string ((rd_T114 l0_2 x10_1).f0), .int .i64 ((rd_T114 l0_2 x10_1).f1), .int .i64 ((rd_T114 l0_2 x10_1).f2), .int .i64 0]) ?_ 3 _ rfl; refine blk_put (cs := #[.string ((rd_T114 l0_2 x10_1).f0), .int .i64 ((rd_T114 l0_2 x10_1).f1), .int .i64 0, .int .i64 0]) ?_ 2 _ rfl; refine blk_put (cs := #[.string ((rd_T114 l0_2 x10_1).f0), .int .i64 0, .int .i64 0, .int .i64 0]) ?_ 1 _ rfl; refine blk_put (cs := #[.string (⟨#[]⟩ : ByteArray), .int .i64 0, .int .i64 0, .int .i64 0]) ?_ 0 _ rfl; exact BK375.out⟩, ⟨by repeat (first | (with_reducible first | exact HB.out | refine below_set ?_ GE375.out))⟩⟩
                    · rw [if_neg c31] at H
                      exact absurd H (by simp)
                  · rw [if_neg c30] at H
                    exact absurd H (by simp)
            case rest =>
              clear HC11
              try clear c1
              try clear c2
              try clear p2
              try clear c3
              try clear p3
              try clear q3
              try clear hx3
              try clear c5
              try clear c6
              try clear c8
              try clear c8b0
              try clear c9
              try clear c9b0
              try clear c10
              try clear c10b0
              try clear c13
              try clear c14
              try clear c15
              try clear c17
              try clear c17b0
              try clear c18
              try clear c19
              try clear c20
              try clear c22
              try clear c22b0
              try clear c23
              try clear c24
              try clear c25
              try clear c27
              try clear c28
              try clear c30
              try clear c30b0
              try clear c31
              try clear c31b0
              try clear c32
              try clear c33
              try clear c34
              try clear c36
              try clear c37
              try clear p37
              try clear q37
              try clear hx37
              try clear hcz16_0
              try clear hcz16_1
              try clear hcz16_2
              try clear hcz16_3
              try clear hcz21_0
              try clear hcz21_1
              try clear hcz21_2
              try clear hcz21_3
              try clear hcz26_0
              try clear hcz26_1
              try clear hcz26_2
              try clear hcz26_3
              try clear hcz29_0
              try clear hcz29_1
              try clear hcz29_2
              try clear hcz29_3
              try clear hcz29_4
              try clear hcz35_0
              try clear hcz35_1
              try clear hcz35_2
              try clear hcz35_3
              try clear hcz38_0
              try clear hcz38_1
              try clear hcz38_2
              try clear hcz38_3
              try clear hcz38_4
              try clear hcz7_0
              try clear hcz7_1
              try clear hcz7_2
              try clear hcz7_3
              try clear hcz7_4
              try clear hfz16_0
              try clear hfz16_1
              try clear hfz16_2
              try clear hfz16_3
              try clear hfz21_0
              try clear hfz21_1
              try clear hfz21_2
              try clear hfz21_3
              try clear hfz26_0
              try clear hfz26_1
              try clear hfz26_2
              try clear hfz26_3
              try clear hfz29_0
              try clear hfz29_1
              try clear hfz29_2
              try clear hfz29_3
              try clear hfz29_4
              try clear hfz35_0
              try clear hfz35_1
              try clear hfz35_2
              try clear hfz35_3
              try clear hfz38_0
              try clear hfz38_1
              try clear hfz38_2
              try clear hfz38_3
              try clear hfz38_4
              try clear hfz7_0
              try clear hfz7_1
              try clear hfz7_2
              try clear hfz7_3
              try clear hfz7_4
              try clear hx374_0
              try clear hx374_1
              try clear hx374_2
              try clear hx374_3
              try clear hx376_0
              try clear hx376_1
              try clear hx376_2
              try clear hx376_3
              try clear hx376_4
              try clear hx376_5
              try clear hx376_6
              try clear p2
              try clear p374
              try clear p376
              try clear q374
              try clear q376
              obtain ⟨kq, x35_10, rfl, HA, HJ10, HO_374003, BK371, BK372, BK373, BK375, HB⟩ := hcut
              cases kq with
              | zero => exact absurd HA.out (by simp [report_bits.j1])
              | succ kj10 =>
                have H := HA.out
                clear HA
                simp only [report_bits.j1] at H
                by_cases c39 : x35_10 = true
                · subst c39
                  have H1 : (report_bits.l0 kj10 l0_2 (l0_2.length : Int) (wrap64 (x10_1 + 1)) l0_0 l0_1 l0_2 l0_3 l0_4 0 x374003_1) = some (r1, r2, r3, r4, r5) := by rw [if_pos rfl] at H; exact H
                  clear H
                  have H := H1
                  clear H1
                  have H' := Aside0.mk H
                  clear H
                  go_wp2
                  go_roundg kj10
                  case measure => have := HK1.out; have := HJ10.out; omega
                  case rel => exact ⟨(wrap64 (x10_1 + 1)), (x374003_1), (u374003), rfl, H', ⟨by have := HK1.out; have := HJ10.out; omega⟩, ⟨by exact HO_374003.out⟩, ⟨by exact BK371.out⟩, ⟨by exact BK372.out⟩, ⟨by exact BK373.out⟩, ⟨by exact HB.out⟩⟩
                · replace c39 := Bool.eq_false_iff.mpr c39
                  subst c39
                  have H1 : (if 0 ≤ ((rd_T114 l0_2 x10_1).f1) then (if ((rd_T114 l0_2 x10_1).f1) < (l0_0.length : Int) then (report_bits.l1 kj10 x10_1 l0_2 (l0_2.length : Int) x10_1 (mx ((rd_T125 l0_0 ((rd_T114 l0_2 x10_1).f1)).f1) 0) 0 l0_0 l0_1 l0_2 l0_3 l0_4 0 x374003_1) else (none)) else (none)) = some (r1, r2, r3, r4, r5) := by rw [if_neg (show ¬ (false = true) by decide)] at H; exact H
                  clear H
                  have H := H1
                  clear H1
                  by_cases c40 : 0 ≤ ((rd_T114 l0_2 x10_1).f1)
                  · rw [if_pos c40] at H
                    have c40b0 : decide (0 ≤ ((rd_T114 l0_2 x10_1).f1)) = true := decide_eq_true c40
                    clear c40
                    by_cases c41 : ((rd_T114 l0_2 x10_1).f1) < (l0_0.length : Int)
                    · rw [if_pos c41] at H
                      have c41b0 : decide (((rd_T114 l0_2 x10_1).f1) < (l0_0.length : Int)) = true := decide_eq_true c41
                      clear c41
                      obtain ⟨ji42, hji42⟩ : ∃ j_ : Int, (mx ((rd_T125 l0_0 ((rd_T114 l0_2 x10_1).f1)).f1) 0) = j_ := ⟨_, rfl⟩
                      replace H : (report_bits.l1 kj10 x10_1 l0_2 (l0_2.length : Int) x10_1 ji42 0 l0_0 l0_1 l0_2 l0_3 l0_4 0 x374003_1) = some (r1, r2, r3, r4, r5) := by first | (rw [hji42] at H; exact H)
                      have hji42_ : (if ((rd_T125 l0_0 ((rd_T114 l0_2 x10_1).f1)).f1) < 0 then 0 else ((rd_T125 l0_0 ((rd_T114 l0_2 x10_1).f1)).f1)) = ji42 := hji42
                      have H' := Aside0.mk H
                      clear H
                      have hnb43 := NB371_372.out
                      have hnc43 := NB372_371.out
                      have hnb44 := NB371_373.out
                      have hnc44 := NB373_371.out
                      have hnb45 := NB371_375.out
                      have hnc45 := NB375_371.out
                      have hcz46_0 : wc.cell? ⟨gb371, 0, none⟩ = some (.slice A0_0 l0_0.length c0_0) := (blk_cell BK371.out 0).trans rfl
                      have hcz46_1 : wc.cell? ⟨gb371, 1, none⟩ = some (.slice A0_1 l0_1.length c0_1) := (blk_cell BK371.out 1).trans rfl
                      have hcz46_2 : wc.cell? ⟨gb371, 2, none⟩ = some (.slice (some ad374) l0_2.length c0_2) := (blk_cell BK371.out 2).trans rfl
                      have hcz46_3 : wc.cell? ⟨gb371, 3, none⟩ = some (.slice A0_3 l0_3.length c0_3) := (blk_cell BK371.out 3).trans rfl
                      have hcz46_4 : wc.cell? ⟨gb371, 4, none⟩ = some (.slice A0_4 l0_4.length c0_4) := (blk_cell BK371.out 4).trans rfl
                      have hfz46_0 := blk_frozen BK371.out 0
                      have hfz46_1 := blk_frozen BK371.out 1
                      have hfz46_2 := blk_frozen BK371.out 2
                      have hfz46_3 := blk_frozen BK371.out 3
                      have hfz46_4 := blk_frozen BK371.out 4
                      have hnb47 := NB375_372.out
                      have hnc47 := NB372_375.out
                      have hnb48 := NB375_373.out
                      have hnc48 := NB373_375.out
                      have hcz49_0 : wc.cell? ⟨gb375, 0, none⟩ = some (.string ((rd_T114 l0_2 x10_1).f0)) := (blk_cell BK375.out 0).trans rfl
                      have hcz49_1 : wc.cell? ⟨gb375, 1, none⟩ = some (.int .i64 ((rd_T114 l0_2 x10_1).f1)) := (blk_cell BK375.out 1).trans rfl
                      have hcz49_2 : wc.cell? ⟨gb375, 2, none⟩ = some (.int .i64 ((rd_T114 l0_2 x10_1).f2)) := (blk_cell BK375.out 2).trans rfl
                      have hcz49_3 : wc.cell? ⟨gb375, 3, none⟩ = some (.int .i64 ((rd_T114 l0_2 x10_1).f3)) := (blk_cell BK375.out 3).trans rfl
                      have hfz49_0 := blk_frozen BK375.out 0
                      have hfz49_1 := blk_frozen BK375.out 1
                      have hfz49_2 := blk_frozen BK375.out 2
                      have hfz49_3 := blk_frozen BK375.out 3
                      have p377 : 0 ≤ (((rd_T114 l0_2 x10_1).f1) : Int) := of_decide_eq_true (by first | (with_reducible assumption))
                      have q377 : ((rd_T114 l0_2 x10_1).f1) < (l0_0.length : Int) := of_decide_eq_true (by first | (with_reducible assumption))
                      obtain ⟨ad377, e377, hx377_0, hx377_1, hx377_2, hx377_3, hx377_4, hx377_5, hx377_6⟩ := at_T125 HR0_0.out ((rd_T114 l0_2 x10_1).f1) p377 q377
                      cases e377
                      replace hx377_0 := (HB.out.cell (World.block_lt_of_cell? w _ hx377_0)).trans hx377_0
                      replace hx377_1 := (HB.out.cell (World.block_lt_of_cell? w _ hx377_1)).trans hx377_1
                      replace hx377_2 := (HB.out.cell (World.block_lt_of_cell? w _ hx377_2)).trans hx377_2
                      replace hx377_3 := (HB.out.cell (World.block_lt_of_cell? w _ hx377_3)).trans hx377_3
                      replace hx377_4 := (HB.out.cell (World.block_lt_of_cell? w _ hx377_4)).trans hx377_4
                      replace hx377_5 := (HB.out.cell (World.block_lt_of_cell? w _ hx377_5)).trans hx377_5
                      replace hx377_6 := (HB.out.cell (World.block_lt_of_cell? w _ hx377_6)).trans hx377_6
                      replace p377 := eq_true p377
                      replace q377 := eq_true q377
                      go_wp2
                      try simp only [Act.put, List.setIfInBounds_toArray, List.set_cons_succ, List.set_cons_zero]
                      go_loopg [44] kj10 (fun kq v44 w' => ∃ (x44_3 : Int) (x374003_3 : List (S94)) (u374003 : Value), v44 = .int .i64 x44_3 ∧ Aside0 (report_bits.l1 kq x10_1 l0_2 (l0_2.length : Int) x10_1 ji42 x44_3 l0_0 l0_1 l0_2 l0_3 l0_4 0 x374003_3 = some (r1, r2, r3, r4, r5)) ∧ Aside0 (kq ≤ kj10) ∧ Aside0 (Kd.R k94 94 w' w.heap.size (fun _ => True) u374003 x374003_3) ∧ Aside0 (w'.heap[gb371]? = some (.cells #[(.slice (some ad377) l0_0.length c0_0), (.slice A0_1 l0_1.length c0_1), (.slice (some ad374) l0_2.length c0_2), (.slice A0_3 l0_3.length c0_3), (.slice A0_4 l0_4.length c0_4)] 27 (0, 0))) ∧ Aside0 (w'.heap[gb372]? = some (.cells #[.int .i64 0, (.slice none 0 0), (.slice none 0 0), (.slice none 0 0), (.slice none 0 0)] 35 (0, 0))) ∧ Aside0 (w'.heap[gb373]? = some (.cells #[.int .i64 0, (.slice none 0 0), (.slice none 0 0), u374003, (.slice none 0 0)] 35 (0, 0))) ∧ Aside0 (w'.heap[gb375]? = some (.cells #[.string ((rd_T114 l0_2 x10_1).f0), .int .i64 ((rd_T114 l0_2 x10_1).f1), .int .i64 ((rd_T114 l0_2 x10_1).f2), .int .i64 ((rd_T114 l0_2 x10_1).f3)] 114 (0, 0))) ∧ Aside0 (Below w.heap.size w w'))
                      case atStart => exact ⟨(0), (x374003_1), (u374003), rfl, H', ⟨Nat.le_refl _⟩, ⟨by exact HO_374003.out⟩, ⟨by exact BK371.out⟩, ⟨by exact BK372.out⟩, ⟨by exact BK373.out⟩, ⟨by exact BK375.out⟩, ⟨by exact HB.out⟩⟩
                      case round =>
                        clear H'
                        try clear c1
                        try clear c2
                        try clear p2
                        try clear c3
                        try clear p3
                        try clear q3
                        try clear hx3
                        try clear c4
                        try clear c5
                        try clear c6
                        try clear p6
                        try clear c8
                        try clear c8b0
                        try clear c9
                        try clear c9b0
                        try clear c10
                        try clear c10b0
                        try clear c13
                        try clear c14
                        try clear c15
                        try clear c17
                        try clear c17b0
                        try clear c18
                        try clear c19
                        try clear c20
                        try clear c22
                        try clear c22b0
                        try clear c23
                        try clear c24
                        try clear c25
                        try clear c27
                        try clear c28
                        try clear c30
                        try clear c30b0
                        try clear c31
                        try clear c31b0
                        try clear c32
                        try clear c33
                        try clear c34
                        try clear c36
                        try clear c37
                        try clear p37
                        try clear q37
                        try clear hx37
                        try clear c39
                        try clear c40
                        try clear c40b0
                        try clear c41
                        try clear c41b0
                        try clear c43
                        try clear c44
                        try clear c45
                        try clear c47
                        try clear c48
                        try clear hcz16_0
                        try clear hcz16_1
                        try clear hcz16_2
                        try clear hcz16_3
                        try clear hcz21_0
                        try clear hcz21_1
                        try clear hcz21_2
                        try clear hcz21_3
                        try clear hcz26_0
                        try clear hcz26_1
                        try clear hcz26_2
                        try clear hcz26_3
                        try clear hcz29_0
                        try clear hcz29_1
                        try clear hcz29_2
                        try clear hcz29_3
                        try clear hcz29_4
                        try clear hcz35_0
                        try clear hcz35_1
                        try clear hcz35_2
                        try clear hcz35_3
                        try clear hcz38_0
                        try clear hcz38_1
                        try clear hcz38_2
                        try clear hcz38_3
                        try clear hcz38_4
                        try clear hcz46_0
                        try clear hcz46_1
                        try clear hcz46_2
                        try clear hcz46_3
                        try clear hcz46_4
                        try clear hcz49_0
                        try clear hcz49_1
                        try clear hcz49_2
                        try clear hcz49_3
                        try clear hcz7_0
                        try clear hcz7_1
                        try clear hcz7_2
                        try clear hcz7_3
                        try clear hcz7_4
                        try clear hfz16_0
                        try clear hfz16_1
                        try clear hfz16_2
                        try clear hfz16_3
                        try clear hfz21_0
                        try clear hfz21_1
                        try clear hfz21_2
                        try clear hfz21_3
                        try clear hfz26_0
                        try clear hfz26_1
                        try clear hfz26_2
                        try clear hfz26_3
                        try clear hfz29_0
                        try clear hfz29_1
                        try clear hfz29_2
                        try clear hfz29_3
                        try clear hfz29_4
                        try clear hfz35_0
                        try clear hfz35_1
                        try clear hfz35_2
                        try clear hfz35_3
                        try clear hfz38_0
                        try clear hfz38_1
                        try clear hfz38_2
                        try clear hfz38_3
                        try clear hfz38_4
                        try clear hfz46_0
                        try clear hfz46_1
                        try clear hfz46_2
                        try clear hfz46_3
                        try clear hfz46_4
                        try clear hfz49_0
                        try clear hfz49_1
                        try clear hfz49_2
                        try clear hfz49_3
                        try clear hfz7_0
                        try clear hfz7_1
                        try clear hfz7_2
                        try clear hfz7_3
                        try clear hfz7_4
                        try clear hx374_0
                        try clear hx374_1
                        try clear hx374_2
                        try clear hx374_3
                        try clear hx376_0
                        try clear hx376_1
                        try clear hx376_2
                        try clear hx376_3
                        try clear hx376_4
                        try clear hx376_5
                        try clear hx376_6
                        try clear hx377_0
                        try clear hx377_1
                        try clear hx377_2
                        try clear hx377_3
                        try clear hx377_4
                        try clear hx377_5
                        try clear hx377_6
                        try clear p2
                        try clear p3
                        try clear p37
                        try clear p374
                        try clear p376
                        try clear p377
                        try clear q3
                        try clear q37
                        try clear q374
                        try clear q376
                        try clear q377
                        obtain ⟨x44_3, x374003_3, u374003, rfl, HA, HK3, HO_374003, BK371, BK372, BK373, BK375, HB⟩ := hrel
                        cases gk with
                        | zero => exact absurd HA.out (by simp [report_bits.l1])
                        | succ k3 =>
                          have H := HA.out
                          clear HA
                          simp only [report_bits.l1] at H
                          by_cases c50 : x44_3 < ji42
                          · rw [if_pos c50] at H
                            have c50b0 : decide (x44_3 < ji42) = true := decide_eq_true c50
                            clear c50
                            by_cases c51 : x374003_3.length < 3518437208883
                            · rw [if_pos c51] at H
                              have LMc51 := Aside0.mk c51
                              clear c51
                              obtain ⟨y378, hy378⟩ : ∃ y_ : List (S94), y_ = (x374003_3 ++ [(⟨0, 0, false, x10_1, x44_3⟩ : S94)]) := ⟨_, rfl⟩
                              replace H : (report_bits.l1 k3 x10_1 l0_2 (l0_2.length : Int) x10_1 ji42 (wrap64 (x44_3 + 1)) l0_0 l0_1 l0_2 l0_3 l0_4 0 y378) = some (r1, r2, r3, r4, r5) := by first | (rw [hy378]; with_reducible exact H)
                              have Ny378 := Aside0.mk hy378
                              clear hy378
                              have H' := Aside0.mk H
                              clear H
                              have hnb52 := NB373_371.out
                              have hnc52 := NB371_373.out
                              have hnb53 := NB373_372.out
                              have hnc53 := NB372_373.out
                              have hnb54 := NB373_375.out
                              have hnc54 := NB375_373.out
                              have hcz55_0 : wr.cell? ⟨gb373, 0, none⟩ = some (.int .i64 0) := (blk_cell BK373.out 0).trans rfl
                              have hcz55_1 : wr.cell? ⟨gb373, 1, none⟩ = some (.slice none 0 0) := (blk_cell BK373.out 1).trans rfl
                              have hcz55_2 : wr.cell? ⟨gb373, 2, none⟩ = some (.slice none 0 0) := (blk_cell BK373.out 2).trans rfl
                              have hcz55_3 : wr.cell? ⟨gb373, 3, none⟩ = some (u374003) := (blk_cell BK373.out 3).trans rfl
                              have hcz55_4 : wr.cell? ⟨gb373, 4, none⟩ = some (.slice none 0 0) := (blk_cell BK373.out 4).trans rfl
                              have hfz55_0 := blk_frozen BK373.out 0
                              have hfz55_1 := blk_frozen BK373.out 1
                              have hfz55_2 := blk_frozen BK373.out 2
                              have hfz55_3 := blk_frozen BK373.out 3
                              have hfz55_4 := blk_frozen BK373.out 4
                              go_wp2_with (first | ((with_reducible refine gate_builtin (b := .append) (xs := #[.tmp 48, .tmp 52]) rfl ?_); (try (refine gate_guard (by rfl) ?_; dsimp only)); at_builtin; refine Kd.R_append k94 (w0 := w) w.heap.size rfl (.tmp 48) (.tmp 52) 32 94 (.agg #[(.int .i64 0), (.int .i64 0), (.bool false), (.int .i64 0), (.int .i64 0)]) 40 rfl Tryz.underlying32 info94 rfl (by decide) (by omega) u374003 x374003_3 (⟨0, 0, false, x10_1, x44_3⟩ : S94) [.int .i64 0, .int .i64 0, .bool false, .int .i64 x10_1, .int .i64 x44_3] (fun _ => True) (fun _ => False) rfl rfl ?aP (fun _ hk => hk.elim) ?aF ?aO ?aB ?aS ?aL ?_; (case aP => exact k94_mkM _ _ _ (⟨0, 0, false, x10_1, x44_3⟩ : S94)); (case aB => exact HB.out); (case aF => exact (fun _ _ => trivial)); (case aO => exact HO_374003.out); (case aS => exact (below_size HB.out)); (case aL => have := LMc51.out; omega); intro v379 w56 ho hb hg hat; rw [← Ny378.out] at ho; have n0_ := Aside0.mk (blk_grown (g := gb371) (o := .cells #[.slice (some ad377) l0_0.length c0_0, .slice A0_1 l0_1.length c0_1, .slice (some ad374) l0_2.length c0_2, .slice A0_3 l0_3.length c0_3, .slice A0_4 l0_4.length c0_4] 27 (0, 0)) BK371.out hg (Kd.R_ne HO_374003.out BK371.out (by decide))); have n1_ := Aside0.mk (blk_grown (g := gb372) (o := .cells #[.int .i64 0, .slice none 0 0, .slice none 0 0, .slice none 0 0, .slice none 0 0] 35 (0, 0)) BK372.out hg (Kd.R_ne HO_374003.out BK372.out (by decide))); have n2_ := Aside0.mk (blk_grown (g := gb373) (o := .cells #[.int .i64 0, .slice none 0 0, .slice none 0 0, u374003, .slice none 0 0] 35 (0, 0)) BK373.out hg (Kd.R_ne HO_374003.out BK373.out (by decide))); have n3_ := Aside0.mk (blk_grown (g := gb375) (o := .cells #[.string ((rd_T114 l0_2 x10_1).f0), .int .i64 ((rd_T114 l0_2 x10_1).f1), .int .i64 ((rd_T114 l0_2 x10_1).f2), .int .i64 ((rd_T114 l0_2 x10_1).f3)] 114 (0, 0)) BK375.out hg (Kd.R_ne HO_374003.out BK375.out (by decide))); have n4_ := Aside0.mk (hb); have n5_ := Aside0.mk (ho); clear BK371; clear BK372; clear BK373; clear BK375; clear HB; clear HO_374003; have BK371 := n0_; have BK372 := n1_; have BK373 := n2_; have BK375 := n3_; have HB := n4_; have HO380 := n5_; clear n0_ n1_ n2_ n3_ n4_ n5_; clear ho hb hg hat; obtain ⟨Ao57, co57, eo57⟩ := Kd.R_slice HO380.out; subst eo57; have hcz58_0 : w56.cell? ⟨gb373, 0, none⟩ = some (.int .i64 0) := (blk_cell BK373.out 0).trans rfl; have hcz58_1 : w56.cell? ⟨gb373, 1, none⟩ = some (.slice none 0 0) := (blk_cell BK373.out 1).trans rfl; have hcz58_2 : w56.cell? ⟨gb373, 2, none⟩ = some (.slice none 0 0) := (blk_cell BK373.out 2).trans rfl; have hcz58_3 : w56.cell? ⟨gb373, 3, none⟩ = some (u374003) := (blk_cell BK373.out 3).trans rfl; have hcz58_4 : w56.cell? ⟨gb373, 4, none⟩ = some (.slice none 0 0) := (blk_cell BK373.out 4).trans rfl; have hfz58_0 := blk_frozen BK373.out 0; have hfz58_1 := blk_frozen BK373.out 1; have hfz58_2 := blk_frozen BK373.out 2; have hfz58_3 := blk_frozen BK373.out 3; have hfz58_4 := blk_frozen BK373.out 4))
                              go_roundg k3
                              case measure => have := HK1.out; have := HJ10.out; have := HK3.out; omega
                              case rel => exact ⟨(wrap64 (x44_3 + 1)), (y378), (.slice Ao57 y378.length co57), rfl, H', ⟨by have := HK1.out; have := HJ10.out; have := HK3.out; omega⟩, ⟨by exact Kd.R_mono (Kd.R_far (p := ⟨gb373, 3, none⟩) (Kd.R_types HO380.out BK373.out (by decide)) (fun _ hk => hk.2) (.slice Ao57 y378.length co57)) (fun _ hk => trivial)⟩, ⟨by refine blk_far ?_ NB371_373.out _; exact BK371.out⟩, ⟨by refine blk_far ?_ NB372_373.out _; exact BK372.out⟩, ⟨by refine blk_put (cs := #[.int .i64 0, .slice none 0 0, .slice none 0 0, u374003, .slice none 0 0]) ?_ 3 _ rfl; exact BK373.out⟩, ⟨by refine blk_far ?_ NB375_373.out _; exact BK375.out⟩, ⟨by repeat (first | (with_reducible first | exact HB.out | refine below_set ?_ GE373.out))⟩⟩
                            · rw [if_neg c51] at H
                              exact absurd H (by simp)
                          · rw [if_neg c50] at H
                            have c50b0 : decide (x44_3 < ji42) = false := decide_eq_false c50
                            clear c50
                            have H' := Aside0.mk H
                            clear H
                            go_wp2
                            go_roundg k3
                            case measure => have := HK1.out; have := HJ10.out; have := HK3.out; omega
                            case rel => exact ⟨(wrap64 (x10_1 + 1)), (x374003_3), (u374003), rfl, H', ⟨by have := HK1.out; have := HJ10.out; have := HK3.out; omega⟩, ⟨by exact HO_374003.out⟩, ⟨by exact BK371.out⟩, ⟨by exact BK372.out⟩, ⟨by exact BK373.out⟩, ⟨by exact HB.out⟩⟩
                    · rw [if_neg c41] at H
                      exact absurd H (by simp)
                  · rw [if_neg c40] at H
                    exact absurd H (by simp)
          · rw [if_neg c10] at H
            exact absurd H (by simp)
        · rw [if_neg c9] at H
          exact absurd H (by simp)
      · rw [if_neg c8] at H
        have c8b0 : decide (x10_1 < (l0_2.length : Int)) = false := decide_eq_false c8
        clear c8
        simp only [Option.some.injEq, Prod.mk.injEq] at H
        obtain ⟨rfl, rfl, rfl, rfl, rfl⟩ := H
        have hnb59 := NB373_371.out
        have hnc59 := NB371_373.out
        have hnb60 := NB373_372.out
        have hnc60 := NB372_373.out
        have hcz61_0 : wr.cell? ⟨gb373, 0, none⟩ = some (.int .i64 0) := (blk_cell BK373.out 0).trans rfl
        have hcz61_1 : wr.cell? ⟨gb373, 1, none⟩ = some (.slice none 0 0) := (blk_cell BK373.out 1).trans rfl
        have hcz61_2 : wr.cell? ⟨gb373, 2, none⟩ = some (.slice none 0 0) := (blk_cell BK373.out 2).trans rfl
        have hcz61_3 : wr.cell? ⟨gb373, 3, none⟩ = some (u374003) := (blk_cell BK373.out 3).trans rfl
        have hcz61_4 : wr.cell? ⟨gb373, 4, none⟩ = some (.slice none 0 0) := (blk_cell BK373.out 4).trans rfl
        have hfz61_0 := blk_frozen BK373.out 0
        have hfz61_1 := blk_frozen BK373.out 1
        have hfz61_2 := blk_frozen BK373.out 2
        have hfz61_3 := blk_frozen BK373.out 3
        have hfz61_4 := blk_frozen BK373.out 4
        have hnb62 := NB372_371.out
        have hnc62 := NB371_372.out
        have hcz63_0 : wr.cell? ⟨gb372, 0, none⟩ = some (.int .i64 0) := (blk_cell BK372.out 0).trans rfl
        have hcz63_1 : wr.cell? ⟨gb372, 1, none⟩ = some (.slice none 0 0) := (blk_cell BK372.out 1).trans rfl
        have hcz63_2 : wr.cell? ⟨gb372, 2, none⟩ = some (.slice none 0 0) := (blk_cell BK372.out 2).trans rfl
        have hcz63_3 : wr.cell? ⟨gb372, 3, none⟩ = some (.slice none 0 0) := (blk_cell BK372.out 3).trans rfl
        have hcz63_4 : wr.cell? ⟨gb372, 4, none⟩ = some (.slice none 0 0) := (blk_cell BK372.out 4).trans rfl
        have hfz63_0 := blk_frozen BK372.out 0
        have hfz63_1 := blk_frozen BK372.out 1
        have hfz63_2 := blk_frozen BK372.out 2
        have hfz63_3 := blk_frozen BK372.out 3
        have hfz63_4 := blk_frozen BK372.out 4
        obtain ⟨Ao64, co64, eo64⟩ := Kd.R_slice HO_374003.out
        subst eo64
        go_wp2
        refine bodyPost_ret (results_cell_row rfl _ _ gb372 35 #[.int .i64 0, .slice none 0 0, .slice none 0 0, .slice Ao64 x374003_1.length co64, .slice none 0 0] (0, 0) _ rfl (by refine blk_put (cs := #[.int .i64 0, .slice none 0 0, .slice none 0 0, .slice Ao64 x374003_1.length co64, .slice none 0 0]) ?_ 4 _ rfl; refine blk_put (cs := #[.int .i64 0, .slice none 0 0, .slice none 0 0, .slice none 0 0, .slice none 0 0]) ?_ 3 _ rfl; refine blk_put (cs := #[.int .i64 0, .slice none 0 0, .slice none 0 0, .slice none 0 0, .slice none 0 0]) ?_ 2 _ rfl; refine blk_put (cs := #[.int .i64 0, .slice none 0 0, .slice none 0 0, .slice none 0 0, .slice none 0 0]) ?_ 1 _ rfl; refine blk_put (cs := #[.int .i64 0, .slice none 0 0, .slice none 0 0, .slice none 0 0, .slice none 0 0]) ?_ 0 _ rfl; exact BK372.out) Tryz.underlying35 rfl (by kernel_rfl)) rfl ?_
        exact ⟨_, _, _, _, by first | rfl, by first | exact Kd.R_nil _ _ _ _ _, by first | exact Kd.R_nil _ _ _ _ _, by exact Kd.R_mono (Kd.R_far (p := ⟨gb372, 4, none⟩) (Kd.R_far (p := ⟨gb372, 3, none⟩) (Kd.R_far (p := ⟨gb372, 2, none⟩) (Kd.R_far (p := ⟨gb372, 1, none⟩) (Kd.R_far (p := ⟨gb372, 0, none⟩) (Kd.R_types HO_374003.out BK372.out (by decide)) (fun _ hk => hk.2) (.int .i64 0)) (fun _ hk => hk.2) (.slice none 0 0)) (fun _ hk => hk.2) (.slice none 0 0)) (fun _ hk => hk.2) (.slice Ao64 x374003_1.length co64)) (fun _ hk => hk.2) (.slice none 0 0)) (fun _ hk => trivial), by first | exact Kd.R_nil _ _ _ _ _, by repeat (first | (with_reducible first | exact HB.out | refine below_set ?_ GE372.out))⟩

end Go.Proofs.YtmfekngjhiofaaaGreatDoor.Q
