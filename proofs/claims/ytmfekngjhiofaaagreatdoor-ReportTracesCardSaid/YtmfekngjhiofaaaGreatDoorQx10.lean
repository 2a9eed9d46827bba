-- Written by the session's own program (wip/tools/ownprint.py) for this claim: functions of the translation as plain Lean functions, and their contracts.
import Derived.Test.YtmfekngjhiofaaaGreatDoorQx0
namespace Go.Proofs.YtmfekngjhiofaaaGreatDoor.Q
open Go.RowKit Go.Proofs.YtmfekngjhiofaaaGreatDoorW.PrintWords Go.Proofs.YtmfekngjhiofaaaGreatDoorW.PrintLast Go.Proofs.YtmfekngjhiofaaaGreatDoorW.PrintMore
attribute [local go_sem] max2_int min2_int max_two min_two max_three min_three max_four min_four   -- for this text's walks alone
set_option linter.unusedVariables false
set_option linter.unusedSimpArgs false

-- BY HAND: function 6 (proofmarklaw27_head)

/-! ### proofmarkref27_Few: function 26 -/
mutual
def proofmarkref27_Few.j1 : Nat → List (S125) → List (S72) → List (S114) → List (S105) → List (S72) → List (S72) → Option ((List (S125)) × (List (S72)) × (List (S114)) × (List (S105)) × (List (S72)))
  | 0, _, _, _, _, _, _ => none
  | k + 1, x118000, x118001, x118002, x118003, x118004, x120001 => proofmarkref27_Few.l1 k 0 x118000 x118001 x118002 x118003 x118004 x120001 ([] : List (S114))
def proofmarkref27_Few.l1 : Nat → Int → List (S125) → List (S72) → List (S114) → List (S105) → List (S72) → List (S72) → List (S114) → Option ((List (S125)) × (List (S72)) × (List (S114)) × (List (S105)) × (List (S72)))
  | 0, _, _, _, _, _, _, _, _ => none
  | k + 1, x6, x118000, x118001, x118002, x118003, x118004, x120001, x120002 => if x6 < (x118002.length : Int) then (if x6 < 20 then (if 0 ≤ x6 then (if 0 ≤ (mn (((rd_T114 x118002 x6).f0).size : Int) 12) then (if (mn (((rd_T114 x118002 x6).f0).size : Int) 12) ≤ (((rd_T114 x118002 x6).f0).size : Int) then (if x120002.length < 3518437208883 then (proofmarkref27_Few.l1 k (wrap64 (x6 + 1)) x118000 x118001 x118002 x118003 x118004 x120001 (x120002 ++ [(⟨((rd_T114 x118002 x6).f0).extract 0 ((mn (((rd_T114 x118002 x6).f0).size : Int) 12) : Int).toNat, (rd_T114 x118002 x6).f1, (rd_T114 x118002 x6).f2, (rd_T114 x118002 x6).f3⟩ : S114)])) else (none)) else (none)) else (none)) else (none)) else (some (([] : List (S125)), x120001, x120002, ([] : List (S105)), ([] : List (S72))))) else (some (([] : List (S125)), x120001, x120002, ([] : List (S105)), ([] : List (S72))))
def proofmarkref27_Few.l0 : Nat → Int → List (S125) → List (S72) → List (S114) → List (S105) → List (S72) → List (S72) → Option ((List (S125)) × (List (S72)) × (List (S114)) × (List (S105)) × (List (S72)))
  | 0, _, _, _, _, _, _, _ => none
  | k + 1, x4, x118000, x118001, x118002, x118003, x118004, x120001 => if x4 < (x118001.length : Int) then (if x4 < 20 then (if 0 ≤ x4 then (if 0 ≤ (mn (((rd_T72 x118001 x4).f0).size : Int) 12) then (if (mn (((rd_T72 x118001 x4).f0).size : Int) 12) ≤ (((rd_T72 x118001 x4).f0).size : Int) then (if x120001.length < 5864062014805 then (proofmarkref27_Few.l0 k (wrap64 (x4 + 1)) x118000 x118001 x118002 x118003 x118004 (x120001 ++ [(⟨((rd_T72 x118001 x4).f0).extract 0 ((mn (((rd_T72 x118001 x4).f0).size : Int) 12) : Int).toNat, (rd_T72 x118001 x4).f1⟩ : S72)])) else (none)) else (none)) else (none)) else (none)) else (proofmarkref27_Few.j1 k x118000 x118001 x118002 x118003 x118004 x120001)) else (proofmarkref27_Few.j1 k x118000 x118001 x118002 x118003 x118004 x120001)
end
def proofmarkref27_Few.f (k : Nat) (l0_0 : List (S125)) (l0_1 : List (S72)) (l0_2 : List (S114)) (l0_3 : List (S105)) (l0_4 : List (S72)) : Option ((List (S125)) × (List (S72)) × (List (S114)) × (List (S105)) × (List (S72))) := proofmarkref27_Few.l0 k 0 l0_0 l0_1 l0_2 l0_3 l0_4 ([] : List (S72))
theorem proofmarkref27_Few.mono_l : ∀ k, (∀ y0 y1 y2 y3 y4 y5, LeO (proofmarkref27_Few.j1 k y0 y1 y2 y3 y4 y5) (proofmarkref27_Few.j1 (k + 1) y0 y1 y2 y3 y4 y5)) ∧ (∀ y0 y1 y2 y3 y4 y5 y6 y7, LeO (proofmarkref27_Few.l1 k y0 y1 y2 y3 y4 y5 y6 y7) (proofmarkref27_Few.l1 (k + 1) y0 y1 y2 y3 y4 y5 y6 y7)) ∧ (∀ y0 y1 y2 y3 y4 y5 y6, LeO (proofmarkref27_Few.l0 k y0 y1 y2 y3 y4 y5 y6) (proofmarkref27_Few.l0 (k + 1) y0 y1 y2 y3 y4 y5 y6))
  | 0 => ⟨fun _ _ _ _ _ _ r h => by simp [proofmarkref27_Few.j1] at h, fun _ _ _ _ _ _ _ _ r h => by simp [proofmarkref27_Few.l1] at h, fun _ _ _ _ _ _ _ r h => by simp [proofmarkref27_Few.l0] at h⟩
  | k + 1 => by
    obtain ⟨ih0, ih1, ih2⟩ := proofmarkref27_Few.mono_l k
    refine ⟨?_, ?_, ?_⟩
    · intro y0 y1 y2 y3 y4 y5
      unfold proofmarkref27_Few.j1
      repeat' first
      | (with_reducible exact ih0 _ _ _ _ _ _)
      | (with_reducible exact ih1 _ _ _ _ _ _ _ _)
      | (with_reducible exact ih2 _ _ _ _ _ _ _)
      | (with_reducible exact LeO.refl _)
      | (with_reducible exact LeO.none _)
      | (with_reducible refine LeO.ite ?_ ?_)
      | (with_reducible refine LeO.bind ?_ (fun _ => ?_))
      | exact ih0 _ _ _ _ _ _
      | exact ih1 _ _ _ _ _ _ _ _
      | exact ih2 _ _ _ _ _ _ _
      | exact LeO.none _
      | refine LeO.ite ?_ ?_
      | refine LeO.bind ?_ (fun _ => ?_)
    · intro y0 y1 y2 y3 y4 y5 y6 y7
      unfold proofmarkref27_Few.l1
      repeat' first
      | (with_reducible exact ih0 _ _ _ _ _ _)
      | (with_reducible exact ih1 _ _ _ _ _ _ _ _)
      | (with_reducible exact ih2 _ _ _ _ _ _ _)
      | (with_reducible exact LeO.refl _)
      | (with_reducible exact LeO.none _)
      | (with_reducible refine LeO.ite ?_ ?_)
      | (with_reducible refine LeO.bind ?_ (fun _ => ?_))
      | exact ih0 _ _ _ _ _ _
      | exact ih1 _ _ _ _ _ _ _ _
      | exact ih2 _ _ _ _ _ _ _
      | exact LeO.none _
      | refine LeO.ite ?_ ?_
      | refine LeO.bind ?_ (fun _ => ?_)
    · intro y0 y1 y2 y3 y4 y5 y6
      unfold proofmarkref27_Few.l0
      repeat' first
      | (with_reducible exact ih0 _ _ _ _ _ _)
      | (with_reducible exact ih1 _ _ _ _ _ _ _ _)
      | (with_reducible exact ih2 _ _ _ _ _ _ _)
      | (with_reducible exact LeO.refl _)
      | (with_reducible exact LeO.none _)
      | (with_reducible refine LeO.ite ?_ ?_)
      | (with_reducible refine LeO.bind ?_ (fun _ => ?_))
      | exact ih0 _ _ _ _ _ _
      | exact ih1 _ _ _ _ _ _ _ _
      | exact ih2 _ _ _ _ _ _ _
      | exact LeO.none _
      | refine LeO.ite ?_ ?_
      | refine LeO.bind ?_ (fun _ => ?_)
theorem proofmarkref27_Few.mono : ∀ a0 a1 a2 a3 a4 k, LeO (proofmarkref27_Few.f k a0 a1 a2 a3 a4) (proofmarkref27_Few.f (k + 1) a0 a1 a2 a3 a4) := by
  intro a0 a1 a2 a3 a4 k
  obtain ⟨ih0, ih1, ih2⟩ := proofmarkref27_Few.mono_l k
  unfold proofmarkref27_Few.f
  repeat' first
      | (with_reducible exact ih0 _ _ _ _ _ _)
      | (with_reducible exact ih1 _ _ _ _ _ _ _ _)
      | (with_reducible exact ih2 _ _ _ _ _ _ _)
      | (with_reducible exact LeO.refl _)
      | (with_reducible exact LeO.none _)
      | (with_reducible refine LeO.ite ?_ ?_)
      | (with_reducible refine LeO.bind ?_ (fun _ => ?_))
      | exact ih0 _ _ _ _ _ _
      | exact ih1 _ _ _ _ _ _ _ _
      | exact ih2 _ _ _ _ _ _ _
      | exact LeO.none _
      | refine LeO.ite ?_ ?_
      | refine LeO.bind ?_ (fun _ => ?_)
set_option maxHeartbeats 8000000 in
set_option maxRecDepth 100000 in
theorem proofmarkref27_Few.calls (k : Nat) (A0_0 : Option Addr) (c0_0 : Nat) (l0_0 : List (S125)) (A0_1 : Option Addr) (c0_1 : Nat) (l0_1 : List (S72)) (A0_2 : Option Addr) (c0_2 : Nat) (l0_2 : List (S114)) (A0_3 : Option Addr) (c0_3 : Nat) (l0_3 : List (S105)) (A0_4 : Option Addr) (c0_4 : Nat) (l0_4 : List (S72)) (r1 : List (S125)) (r2 : List (S72)) (r3 : List (S114)) (r4 : List (S105)) (r5 : List (S72)) (w : World) (hr0_0 : Kd.C k125 w A0_0 l0_0.length l0_0) (hc0_0 : l0_0.length ≤ c0_0) (hr0_1 : Kd.C k72 w A0_1 l0_1.length l0_1) (hc0_1 : l0_1.length ≤ c0_1) (hr0_2 : Kd.C k114 w A0_2 l0_2.length l0_2) (hc0_2 : l0_2.length ≤ c0_2) (hr0_3 : Kd.C k105 w A0_3 l0_3.length l0_3) (hc0_3 : l0_3.length ≤ c0_3) (hr0_4 : Kd.C k72 w A0_4 l0_4.length l0_4) (hc0_4 : l0_4.length ≤ c0_4) (h : proofmarkref27_Few.f k l0_0 l0_1 l0_2 l0_3 l0_4 = some (r1, r2, r3, r4, r5)) :
    Calls Tryz.prog 26 #[.agg #[.slice A0_0 l0_0.length c0_0, .slice A0_1 l0_1.length c0_1, .slice A0_2 l0_2.length c0_2, .slice A0_3 l0_3.length c0_3, .slice A0_4 l0_4.length c0_4]] w fun e w' => ∃ v0_ v1_ v2_ v3_ v4_ : Value, e = .returned (.agg #[v0_, v1_, v2_, v3_, v4_]) ∧ Kd.R k125 125 w' w.heap.size (fun _ => True) v0_ r1 ∧ Kd.R k72 72 w' w.heap.size (fun k_ => some k_ ≠ (v4_ : Value).ownBlock) v1_ r2 ∧ Kd.R k114 114 w' w.heap.size (fun _ => True) v2_ r3 ∧ Kd.R k105 105 w' w.heap.size (fun _ => True) v3_ r4 ∧ Kd.R k72 72 w' w.heap.size (fun k_ => some k_ ≠ (v1_ : Value).ownBlock) v4_ r5 ∧ Below w.heap.size w w' := by
  have hu27 := Tryz.underlying27
  have hu72 := Tryz.underlying72
  have hu114 := Tryz.underlying114
  have HR0_0 := Aside0.mk hr0_0
  have HC0_0 := Aside0.mk hc0_0
  clear hr0_0 hc0_0
  have HR0_1 := Aside0.mk hr0_1
  have HC0_1 := Aside0.mk hc0_1
  clear hr0_1 hc0_1
  have HR0_2 := Aside0.mk hr0_2
  have HC0_2 := Aside0.mk hc0_2
  clear hr0_2 hc0_2
  have HR0_3 := Aside0.mk hr0_3
  have HC0_3 := Aside0.mk hc0_3
  clear hr0_3 hc0_3
  have HR0_4 := Aside0.mk hr0_4
  have HC0_4 := Aside0.mk hc0_4
  clear hr0_4 hc0_4
  have HB := Aside0.mk (Below.refl w.heap.size w)
  have H : (proofmarkref27_Few.l0 k 0 l0_0 l0_1 l0_2 l0_3 l0_4 ([] : List (S72))) = some (r1, r2, r3, r4, r5) := h
  clear h
  have HC2 := Aside0.mk H
  clear H
  go_enter Tryz.func26, Tryz.ntmps26
  go_upto_block 0 with (first | ((with_reducible refine gate_dst (N := 1) rfl ?_); refine box_event ?hg (N := 1) ?hd (cs := #[.slice A0_0 l0_0.length c0_0, .slice A0_1 l0_1.length c0_1, .slice A0_2 l0_2.length c0_2, .slice A0_3 l0_3.length c0_3, .slice A0_4 l0_4.length c0_4]) (t := 27) ?hr ?_; (case hd => rfl); (case hg => rfl); (case hr => first | (go_simp; done)); intro gb117 hg w3 hbox hb; have n0_ := Aside0.mk (below_step HB.out hb); have n1_ := Aside0.mk (hbox); have n2_ := Aside0.mk ((by rw [hg]; exact (below_size HB.out) : w.heap.size ≤ gb117)); have n3_ := Aside0.mk ((by rw [hg]; exact (below_size HB.out) : w.heap.size ≤ gb117)); clear HB; have HB := n0_; have BK117 := n1_; have GW117 := n2_; have GE117 := n3_; clear n0_ n1_ n2_ n3_; clear hb hbox hg) | ((with_reducible refine gate_dst (N := 2) rfl ?_); refine box_event ?hg (N := 2) ?hd (cs := #[.slice none 0 0, .slice none 0 0, .slice none 0 0, .slice none 0 0, .slice none 0 0]) (t := 27) ?hr ?_; (case hd => rfl); (case hg => rfl); (case hr => first | (go_simp; done)); intro gb118 hg w4 hbox hb; have n0_ := Aside0.mk (blk_below BK117.out hb); have n1_ := Aside0.mk (below_step HB.out hb); have n2_ := Aside0.mk (hbox); have n3_ := Aside0.mk ((by rw [hg]; exact (below_size HB.out) : w.heap.size ≤ gb118)); have n4_ := Aside0.mk ((by rw [hg]; exact (below_size HB.out) : w.heap.size ≤ gb118)); have n5_ := Aside0.mk ((by rw [hg]; exact Nat.ne_of_lt (blk_lt BK117.out) : gb117 ≠ gb118)); have n6_ := Aside0.mk ((by rw [hg]; exact Nat.ne_of_gt (blk_lt BK117.out) : gb118 ≠ gb117)); clear BK117; clear HB; have BK117 := n0_; have HB := n1_; have BK118 := n2_; have GW118 := n3_; have GE118 := n4_; have NB117_118 := n5_; have NB118_117 := n6_; clear n0_ n1_ n2_ n3_ n4_ n5_ n6_; clear hb hbox hg) | ((with_reducible refine gate_dst (N := 3) rfl ?_); refine box_event ?hg (N := 3) ?hd (cs := #[.slice none 0 0, .slice none 0 0, .slice none 0 0, .slice none 0 0, .slice none 0 0]) (t := 27) ?hr ?_; (case hd => rfl); (case hg => rfl); (case hr => first | (go_simp; done)); intro gb119 hg w5 hbox hb; have n0_ := Aside0.mk (blk_below BK117.out hb); have n1_ := Aside0.mk (blk_below BK118.out hb); have n2_ := Aside0.mk (below_step HB.out hb); have n3_ := Aside0.mk (hbox); have n4_ := Aside0.mk ((by rw [hg]; exact (below_size HB.out) : w.heap.size ≤ gb119)); have n5_ := Aside0.mk ((by rw [hg]; exact (below_size HB.out) : w.heap.size ≤ gb119)); have n6_ := Aside0.mk ((by rw [hg]; exact Nat.ne_of_lt (blk_lt BK117.out) : gb117 ≠ gb119)); have n7_ := Aside0.mk ((by rw [hg]; exact Nat.ne_of_gt (blk_lt BK117.out) : gb119 ≠ gb117)); have n8_ := Aside0.mk ((by rw [hg]; exact Nat.ne_of_lt (blk_lt BK118.out) : gb118 ≠ gb119)); have n9_ := Aside0.mk ((by rw [hg]; exact Nat.ne_of_gt (blk_lt BK118.out) : gb119 ≠ gb118)); clear BK117; clear BK118; clear HB; have BK117 := n0_; have BK118 := n1_; have HB := n2_; have BK119 := n3_; have GW119 := n4_; have GE119 := n5_; have NB117_119 := n6_; have NB119_117 := n7_; have NB118_119 := n8_; have NB119_118 := n9_; clear n0_ n1_ n2_ n3_ n4_ n5_ n6_ n7_ n8_ n9_; clear hb hbox hg; have hnb6 := NB119_117.out; have hnc6 := NB117_119.out; have hnb7 := NB119_118.out; have hnc7 := NB118_119.out; have hcz8_0 : w5.cell? ⟨gb119, 0, none⟩ = some (.slice none 0 0) := (blk_cell BK119.out 0).trans rfl; have hcz8_1 : w5.cell? ⟨gb119, 1, none⟩ = some (.slice none 0 0) := (blk_cell BK119.out 1).trans rfl; have hcz8_2 : w5.cell? ⟨gb119, 2, none⟩ = some (.slice none 0 0) := (blk_cell BK119.out 2).trans rfl; have hcz8_3 : w5.cell? ⟨gb119, 3, none⟩ = some (.slice none 0 0) := (blk_cell BK119.out 3).trans rfl; have hcz8_4 : w5.cell? ⟨gb119, 4, none⟩ = some (.slice none 0 0) := (blk_cell BK119.out 4).trans rfl; have hfz8_0 := blk_frozen BK119.out 0; have hfz8_1 := blk_frozen BK119.out 1; have hfz8_2 := blk_frozen BK119.out 2; have hfz8_3 := blk_frozen BK119.out 3; have hfz8_4 := blk_frozen BK119.out 4))
  (try simp only [Act.put, List.setIfInBounds_toArray, List.set_cons_zero, List.set_cons_succ])
  go_cut [] (fun wc => ∃ (kq : Nat) (x120001_1 : List (S72)) (u120001 : Value), Aside0 (proofmarkref27_Few.j1 kq l0_0 l0_1 l0_2 l0_3 l0_4 x120001_1 = some (r1, r2, r3, r4, r5)) ∧ Aside0 (kq ≤ k) ∧ Aside0 (Kd.R k72 72 wc w.heap.size (fun _ => True) u120001 x120001_1) ∧ Aside0 (wc.heap[gb117]? = some (.cells #[(.slice A0_0 l0_0.length c0_0), (.slice A0_1 l0_1.length c0_1), (.slice A0_2 l0_2.length c0_2), (.slice A0_3 l0_3.length c0_3), (.slice A0_4 l0_4.length c0_4)] 27 (0, 0))) ∧ Aside0 (wc.heap[gb118]? = some (.cells #[(.slice none 0 0), (.slice none 0 0), (.slice none 0 0), (.slice none 0 0), (.slice none 0 0)] 27 (0, 0))) ∧ Aside0 (wc.heap[gb119]? = some (.cells #[(.slice none 0 0), u120001, (.slice none 0 0), (.slice none 0 0), (.slice none 0 0)] 27 (0, 0))) ∧ Aside0 (Below w.heap.size w wc))
  case first =>
    have H := HC2.out
    clear HC2
    have H' := Aside0.mk H
    clear H
    go_wp2
    try simp only [Act.put, List.setIfInBounds_toArray, List.set_cons_succ, List.set_cons_zero]
    go_loopg [4] k (fun kq v4 w' => ∃ (x4_1 : Int) (x120001_1 : List (S72)) (u120001 : Value), v4 = .int .i64 x4_1 ∧ Aside0 (proofmarkref27_Few.l0 kq x4_1 l0_0 l0_1 l0_2 l0_3 l0_4 x120001_1 = some (r1, r2, r3, r4, r5)) ∧ Aside0 (kq ≤ k) ∧ Aside0 (Kd.R k72 72 w' w.heap.size (fun _ => True) u120001 x120001_1) ∧ Aside0 (w'.heap[gb117]? = some (.cells #[(.slice A0_0 l0_0.length c0_0), (.slice A0_1 l0_1.length c0_1), (.slice A0_2 l0_2.length c0_2), (.slice A0_3 l0_3.length c0_3), (.slice A0_4 l0_4.length c0_4)] 27 (0, 0))) ∧ Aside0 (w'.heap[gb118]? = some (.cells #[(.slice none 0 0), (.slice none 0 0), (.slice none 0 0), (.slice none 0 0), (.slice none 0 0)] 27 (0, 0))) ∧ Aside0 (w'.heap[gb119]? = some (.cells #[(.slice none 0 0), u120001, (.slice none 0 0), (.slice none 0 0), (.slice none 0 0)] 27 (0, 0))) ∧ Aside0 (Below w.heap.size w w'))
    case atStart => exact ⟨(0), (([] : List (S72))), (.slice none 0 0), rfl, H', ⟨Nat.le_refl _⟩, ⟨by first | exact Kd.R_nil _ _ _ _ _⟩, ⟨by refine blk_far ?_ NB117_119.out _; refine blk_far ?_ NB117_119.out _; refine blk_far ?_ NB117_119.out _; refine blk_far ?_ NB117_119.out _; refine blk_far ?_ NB117_119.out _; exact BK117.out⟩, ⟨by refine blk_far ?_ NB118_119.out _; refine blk_far ?_ NB118_119.out _; refine blk_far ?_ NB118_119.out _; refine blk_far ?_ NB118_119.out _; refine blk_far ?_ NB118_119.out _; exact BK118.out⟩, ⟨by refine blk_put (cs := #[.slice none 0 0, .slice none 0 0, .slice none 0 0, .slice none 0 0, .slice none 0 0]) ?_ 4 _ rfl; refine blk_put (cs := #[.slice none 0 0, .slice none 0 0, .slice none 0 0, .slice none 0 0, .slice none 0 0]) ?_ 3 _ rfl; refine blk_put (cs := #[.slice none 0 0, .slice none 0 0, .slice none 0 0, .slice none 0 0, .slice none 0 0]) ?_ 2 _ rfl; refine blk_put (cs := #[.slice none 0 0, .slice none 0 0, .slice none 0 0, .slice none 0 0, .slice none 0 0]) ?_ 1 _ rfl; refine blk_put (cs := #[.slice none 0 0, .slice none 0 0, .slice none 0 0, .slice none 0 0, .slice none 0 0]) ?_ 0 _ rfl; exact BK119.out⟩, ⟨by repeat (first | (with_reducible first | exact HB.out | refine below_set ?_ GE119.out))⟩⟩
    case round =>
      clear H'
      try clear c2
      try clear p2
      try clear c6
      try clear c7
      try clear hcz8_0
      try clear hcz8_1
      try clear hcz8_2
      try clear hcz8_3
      try clear hcz8_4
      try clear hfz8_0
      try clear hfz8_1
      try clear hfz8_2
      try clear hfz8_3
      try clear hfz8_4
      obtain ⟨x4_1, x120001_1, u120001, rfl, HA, HK1, HO_120001, BK117, BK118, BK119, HB⟩ := hrel
      cases gk with
      | zero => exact absurd HA.out (by simp [proofmarkref27_Few.l0])
      | succ k1 =>
        have H := HA.out
        clear HA
        simp only [proofmarkref27_Few.l0] at H
        by_cases c9 : x4_1 < (l0_1.length : Int)
        · rw [if_pos c9] at H
          have c9b0 : decide (x4_1 < (l0_1.length : Int)) = true := decide_eq_true c9
          clear c9
          (first | skip)
          by_cases c10 : x4_1 < 20
          · rw [if_pos c10] at H
            have c10b0 : decide (x4_1 < 20) = true := decide_eq_true c10
            clear c10
            by_cases c11 : 0 ≤ x4_1
            · rw [if_pos c11] at H
              have c11b0 : decide (0 ≤ x4_1) = true := decide_eq_true c11
              clear c11
              obtain ⟨ji12, hji12⟩ : ∃ j_ : Int, (mn (((rd_T72 l0_1 x4_1).f0).size : Int) 12) = j_ := ⟨_, rfl⟩
              replace H : (if 0 ≤ (ji12) then (if (ji12) ≤ (((rd_T72 l0_1 x4_1).f0).size : Int) then (if x120001_1.length < 5864062014805 then (proofmarkref27_Few.l0 k1 (wrap64 (x4_1 + 1)) l0_0 l0_1 l0_2 l0_3 l0_4 (x120001_1 ++ [(⟨((rd_T72 l0_1 x4_1).f0).extract 0 ((ji12) : Int).toNat, (rd_T72 l0_1 x4_1).f1⟩ : S72)])) else (none)) else (none)) else (none)) = some (r1, r2, r3, r4, r5) := by first | (rw [hji12] at H; exact H)
              have hji12_ : (if 12 < (((rd_T72 l0_1 x4_1).f0).size : Int) then 12 else (((rd_T72 l0_1 x4_1).f0).size : Int)) = ji12 := hji12
              by_cases c13 : 0 ≤ (ji12)
              · rw [if_pos c13] at H
                have c13b0 := eq_true c13
                have c13b1 : decide (0 ≤ (ji12)) = true := decide_eq_true c13
                clear c13
                by_cases c14 : (ji12) ≤ (((rd_T72 l0_1 x4_1).f0).size : Int)
                · rw [if_pos c14] at H
                  have c14b0 := eq_true c14
                  have c14b1 : decide ((ji12) ≤ (((rd_T72 l0_1 x4_1).f0).size : Int)) = true := decide_eq_true c14
                  clear c14
                  by_cases c15 : x120001_1.length < 5864062014805
                  · rw [if_pos c15] at H
                    have LMc15 := Aside0.mk c15
                    clear c15
                    obtain ⟨y122, hy122⟩ : ∃ y_ : List (S72), y_ = (x120001_1 ++ [(⟨((rd_T72 l0_1 x4_1).f0).extract 0 ((ji12) : Int).toNat, (rd_T72 l0_1 x4_1).f1⟩ : S72)]) := ⟨_, rfl⟩
                    replace H : (proofmarkref27_Few.l0 k1 (wrap64 (x4_1 + 1)) l0_0 l0_1 l0_2 l0_3 l0_4 y122) = some (r1, r2, r3, r4, r5) := by first | (rw [hy122]; with_reducible exact H)
                    have Ny122 := Aside0.mk hy122
                    clear hy122
                    have H' := Aside0.mk H
                    clear H
                    have hnb16 := NB117_118.out
                    have hnc16 := NB118_117.out
                    have hnb17 := NB117_119.out
                    have hnc17 := NB119_117.out
                    have hcz18_0 : wr.cell? ⟨gb117, 0, none⟩ = some (.slice A0_0 l0_0.length c0_0) := (blk_cell BK117.out 0).trans rfl
                    have hcz18_1 : wr.cell? ⟨gb117, 1, none⟩ = some (.slice A0_1 l0_1.length c0_1) := (blk_cell BK117.out 1).trans rfl
                    have hcz18_2 : wr.cell? ⟨gb117, 2, none⟩ = some (.slice A0_2 l0_2.length c0_2) := (blk_cell BK117.out 2).trans rfl
                    have hcz18_3 : wr.cell? ⟨gb117, 3, none⟩ = some (.slice A0_3 l0_3.length c0_3) := (blk_cell BK117.out 3).trans rfl
                    have hcz18_4 : wr.cell? ⟨gb117, 4, none⟩ = some (.slice A0_4 l0_4.length c0_4) := (blk_cell BK117.out 4).trans rfl
                    have hfz18_0 := blk_frozen BK117.out 0
                    have hfz18_1 := blk_frozen BK117.out 1
                    have hfz18_2 := blk_frozen BK117.out 2
                    have hfz18_3 := blk_frozen BK117.out 3
                    have hfz18_4 := blk_frozen BK117.out 4
                    have p120 : 0 ≤ (x4_1 : Int) := of_decide_eq_true (by first | (with_reducible assumption))
                    have q120 : x4_1 < (l0_1.length : Int) := of_decide_eq_true (by first | (with_reducible assumption))
                    obtain ⟨ad120, e120, hx120_0, hx120_1⟩ := at_T72 HR0_1.out x4_1 p120 q120
                    cases e120
                    replace hx120_0 := (HB.out.cell (World.block_lt_of_cell? w _ hx120_0)).trans hx120_0
                    replace hx120_1 := (HB.out.cell (World.block_lt_of_cell? w _ hx120_1)).trans hx120_1
                    replace p120 := eq_true p120
                    replace q120 := eq_true q120
                    go_wp2_with (first | ((with_reducible refine gate_dst (N := 5) rfl ?_); refine box_event ?hg (N := 5) ?hd (cs := #[.string (⟨#[]⟩ : ByteArray), .int .i64 0]) (t := 72) ?hr ?_; (case hd => rfl); (case hg => rfl); (case hr => first | (go_simp; done)); intro gb121 hg w19 hbox hb; have n0_ := Aside0.mk (Kd.R_below (Kd.R_elderB HO_120001.out gb121 (Nat.le_of_eq hg.symm)) hb); have n1_ := Aside0.mk (blk_below BK117.out hb); have n2_ := Aside0.mk (blk_below BK118.out hb); have n3_ := Aside0.mk (blk_below BK119.out hb); have n4_ := Aside0.mk (below_step HB.out hb); have n5_ := Aside0.mk (hbox); have n6_ := Aside0.mk ((by rw [hg]; exact (below_size HB.out) : w.heap.size ≤ gb121)); have n7_ := Aside0.mk ((by rw [hg]; exact (below_size HB.out) : w.heap.size ≤ gb121)); have n8_ := Aside0.mk ((by rw [hg]; exact Nat.ne_of_lt (blk_lt BK117.out) : gb117 ≠ gb121)); have n9_ := Aside0.mk ((by rw [hg]; exact Nat.ne_of_gt (blk_lt BK117.out) : gb121 ≠ gb117)); have n10_ := Aside0.mk ((by rw [hg]; exact Nat.ne_of_lt (blk_lt BK118.out) : gb118 ≠ gb121)); have n11_ := Aside0.mk ((by rw [hg]; exact Nat.ne_of_gt (blk_lt BK118.out) : gb121 ≠ gb118)); have n12_ := Aside0.mk ((by rw [hg]; exact Nat.ne_of_lt (blk_lt BK119.out) : gb119 ≠ gb121)); have n13_ := Aside0.mk ((by rw [hg]; exact Nat.ne_of_gt (blk_lt BK119.out) : gb121 ≠ gb119)); clear HO_120001; clear BK117; clear BK118; clear BK119; clear HB; have HO_120001 := n0_; have BK117 := n1_; have BK118 := n2_; have BK119 := n3_; have HB := n4_; have BK121 := n5_; have GW121 := n6_; have GE121 := n7_; have NB117_121 := n8_; have NB121_117 := n9_; have NB118_121 := n10_; have NB121_118 := n11_; have NB119_121 := n12_; have NB121_119 := n13_; clear n0_ n1_ n2_ n3_ n4_ n5_ n6_ n7_ n8_ n9_ n10_ n11_ n12_ n13_; clear hb hbox hg; have hnb20 := NB121_117.out; have hnc20 := NB117_121.out; have hnb21 := NB121_118.out; have hnc21 := NB118_121.out; have hnb22 := NB121_119.out; have hnc22 := NB119_121.out; have hcz23_0 : w19.cell? ⟨gb121, 0, none⟩ = some (.string (⟨#[]⟩ : ByteArray)) := (blk_cell BK121.out 0).trans rfl; have hcz23_1 : w19.cell? ⟨gb121, 1, none⟩ = some (.int .i64 0) := (blk_cell BK121.out 1).trans rfl; have hfz23_0 := blk_frozen BK121.out 0; have hfz23_1 := blk_frozen BK121.out 1; have hnb24 := NB119_118.out; have hnc24 := NB118_119.out; have hcz25_0 : w19.cell? ⟨gb119, 0, none⟩ = some (.slice none 0 0) := (blk_cell BK119.out 0).trans rfl; have hcz25_1 : w19.cell? ⟨gb119, 1, none⟩ = some (u120001) := (blk_cell BK119.out 1).trans rfl; have hcz25_2 : w19.cell? ⟨gb119, 2, none⟩ = some (.slice none 0 0) := (blk_cell BK119.out 2).trans rfl; have hcz25_3 : w19.cell? ⟨gb119, 3, none⟩ = some (.slice none 0 0) := (blk_cell BK119.out 3).trans rfl; have hcz25_4 : w19.cell? ⟨gb119, 4, none⟩ = some (.slice none 0 0) := (blk_cell BK119.out 4).trans rfl; have hfz25_0 := blk_frozen BK119.out 0; have hfz25_1 := blk_frozen BK119.out 1; have hfz25_2 := blk_frozen BK119.out 2; have hfz25_3 := blk_frozen BK119.out 3; have hfz25_4 := blk_frozen BK119.out 4) | ((with_reducible refine gate_builtin (b := .append) (xs := #[.tmp 34, .tmp 36]) rfl ?_); at_builtin; refine Kd.R_append k72 (w0 := w) w.heap.size rfl (.tmp 34) (.tmp 36) 23 72 (.agg #[(.string ⟨#[]⟩), (.int .i64 0)]) 24 rfl Tryz.underlying23 info72 rfl (by decide) (by omega) u120001 x120001_1 (⟨((rd_T72 l0_1 x4_1).f0).extract 0 ((ji12) : Int).toNat, (rd_T72 l0_1 x4_1).f1⟩ : S72) [.string (((rd_T72 l0_1 x4_1).f0).extract 0 ((ji12) : Int).toNat), .int .i64 ((rd_T72 l0_1 x4_1).f1)] (fun k_ => k_ ≠ gb121) (fun _ => False) rfl (by first | (go_simp; done)) ?aP (fun _ hk => hk.elim) ?aF ?aO ?aB ?aS ?aL ?_; (case aP => exact k72_mkM _ _ _ (⟨((rd_T72 l0_1 x4_1).f0).extract 0 ((ji12) : Int).toNat, (rd_T72 l0_1 x4_1).f1⟩ : S72)); (case aB => exact (by repeat (first | (with_reducible first | exact HB.out | refine below_set ?_ GE121.out)))); (case aF => exact (fun k_ hk => Kd.freshB (g := gb121) (o := .cells #[.string (((rd_T72 l0_1 x4_1).f0).extract 0 ((ji12) : Int).toNat), .int .i64 ((rd_T72 l0_1 x4_1).f1)] 72 (0, 0)) (by refine blk_put (cs := #[.string ((rd_T72 l0_1 x4_1).f0), .int .i64 ((rd_T72 l0_1 x4_1).f1)]) ?_ 0 _ rfl; refine blk_put (cs := #[.string ((rd_T72 l0_1 x4_1).f0), .int .i64 0]) ?_ 1 _ rfl; refine blk_put (cs := #[.string (⟨#[]⟩ : ByteArray), .int .i64 0]) ?_ 0 _ rfl; exact BK121.out) k_ hk)); (case aO => exact (by exact Kd.R_mono (Kd.R_far (p := ⟨gb121, 0, none⟩) (Kd.R_far (p := ⟨gb121, 1, none⟩) (Kd.R_far (p := ⟨gb121, 0, none⟩) (Kd.R_mono HO_120001.out (fun k_ hk => (⟨hk, hk.2⟩ : _ ∧ k_ ≠ gb121))) (fun _ hk => hk.2) (.string ((rd_T72 l0_1 x4_1).f0))) (fun _ hk => hk.2) (.int .i64 ((rd_T72 l0_1 x4_1).f1))) (fun _ hk => hk.2) (.string (((rd_T72 l0_1 x4_1).f0).extract 0 ((ji12) : Int).toNat))) (fun _ hk => hk.1.2))); (case aS => exact (below_size (by repeat (first | (with_reducible first | exact HB.out | refine below_set ?_ GE121.out))))); (case aL => have := LMc15.out; omega); intro v123 w26 ho hb hg hat; rw [← Ny122.out] at ho; have n0_ := Aside0.mk (blk_grown (g := gb117) (o := .cells #[.slice A0_0 l0_0.length c0_0, .slice (some ad120) l0_1.length c0_1, .slice A0_2 l0_2.length c0_2, .slice A0_3 l0_3.length c0_3, .slice A0_4 l0_4.length c0_4] 27 (0, 0)) (by refine blk_far ?_ NB117_121.out _; refine blk_far ?_ NB117_121.out _; refine blk_far ?_ NB117_121.out _; exact BK117.out) hg (Kd.R_ne HO_120001.out BK117.out (by decide))); have n1_ := Aside0.mk (blk_grown (g := gb118) (o := .cells #[.slice none 0 0, .slice none 0 0, .slice none 0 0, .slice none 0 0, .slice none 0 0] 27 (0, 0)) (by refine blk_far ?_ NB118_121.out _; refine blk_far ?_ NB118_121.out _; refine blk_far ?_ NB118_121.out _; exact BK118.out) hg (Kd.R_ne HO_120001.out BK118.out (by decide))); have n2_ := Aside0.mk (blk_grown (g := gb119) (o := .cells #[.slice none 0 0, u120001, .slice none 0 0, .slice none 0 0, .slice none 0 0] 27 (0, 0)) (by refine blk_far ?_ NB119_121.out _; refine blk_far ?_ NB119_121.out _; refine blk_far ?_ NB119_121.out _; exact BK119.out) hg (Kd.R_ne HO_120001.out BK119.out (by decide))); have n3_ := Aside0.mk (blk_grown (g := gb121) (o := .cells #[.string (((rd_T72 l0_1 x4_1).f0).extract 0 ((ji12) : Int).toNat), .int .i64 ((rd_T72 l0_1 x4_1).f1)] 72 (0, 0)) (by refine blk_put (cs := #[.string ((rd_T72 l0_1 x4_1).f0), .int .i64 ((rd_T72 l0_1 x4_1).f1)]) ?_ 0 _ rfl; refine blk_put (cs := #[.string ((rd_T72 l0_1 x4_1).f0), .int .i64 0]) ?_ 1 _ rfl; refine blk_put (cs := #[.string (⟨#[]⟩ : ByteArray), .int .i64 0]) ?_ 0 _ rfl; exact BK121.out) hg (Kd.R_away HO_120001.out (fun _ hk => hk.2))); have n4_ := Aside0.mk (hb); have n5_ := Aside0.mk (ho); clear BK117; clear BK118; clear BK119; clear BK121; clear HB; clear HO_120001; have BK117 := n0_; have BK118 := n1_; have BK119 := n2_; have BK121 := n3_; have HB := n4_; have HO124 := n5_; clear n0_ n1_ n2_ n3_ n4_ n5_; clear ho hb hg hat; obtain ⟨Ao27, co27, eo27⟩ := Kd.R_slice HO124.out; subst eo27; have hcz28_0 : w26.cell? ⟨gb119, 0, none⟩ = some (.slice none 0 0) := (blk_cell BK119.out 0).trans rfl; have hcz28_1 : w26.cell? ⟨gb119, 1, none⟩ = some (u120001) := (blk_cell BK119.out 1).trans rfl; have hcz28_2 : w26.cell? ⟨gb119, 2, none⟩ = some (.slice none 0 0) := (blk_cell BK119.out 2).trans rfl; have hcz28_3 : w26.cell? ⟨gb119, 3, none⟩ = some (.slice none 0 0) := (blk_cell BK119.out 3).trans rfl; have hcz28_4 : w26.cell? ⟨gb119, 4, none⟩ = some (.slice none 0 0) := (blk_cell BK119.out 4).trans rfl; have hfz28_0 := blk_frozen BK119.out 0; have hfz28_1 := blk_frozen BK119.out 1; have hfz28_2 := blk_frozen BK119.out 2; have hfz28_3 := blk_frozen BK119.out 3; have hfz28_4 := blk_frozen BK119.out 4))
                    go_roundg k1
                    case measure => have := HK1.out; omega
                    case rel => exact ⟨(wrap64 (x4_1 + 1)), (y122), (.slice Ao27 y122.length co27), rfl, H', ⟨by have := HK1.out; omega⟩, ⟨by exact Kd.R_mono (Kd.R_far (p := ⟨gb119, 1, none⟩) (Kd.R_types HO124.out BK119.out (by decide)) (fun _ hk => hk.2) (.slice Ao27 y122.length co27)) (fun _ hk => trivial)⟩, ⟨by refine blk_far ?_ NB117_119.out _; exact BK117.out⟩, ⟨by refine blk_far ?_ NB118_119.out _; exact BK118.out⟩, ⟨by refine blk_put (cs := #[.slice none 0 0, u120001, .slice none 0 0, .slice none 0 0, .slice none 0 0]) ?_ 1 _ rfl; exact BK119.out⟩, ⟨by repeat (first | (with_reducible first | exact HB.out | refine below_set ?_ GE119.out))⟩⟩
                  · rw [if_neg c15] at H
                    exact absurd H (by simp)
                · rw [if_neg c14] at H
                  exact absurd H (by simp)
              · rw [if_neg c13] at H
                exact absurd H (by simp)
            · rw [if_neg c11] at H
              exact absurd H (by simp)
          · rw [if_neg c10] at H
            have c10b0 : decide (x4_1 < 20) = false := decide_eq_false c10
            clear c10
            have H' := Aside0.mk H
            clear H
            have hnb29 := NB117_118.out
            have hnc29 := NB118_117.out
            have hnb30 := NB117_119.out
            have hnc30 := NB119_117.out
            have hcz31_0 : wr.cell? ⟨gb117, 0, none⟩ = some (.slice A0_0 l0_0.length c0_0) := (blk_cell BK117.out 0).trans rfl
            have hcz31_1 : wr.cell? ⟨gb117, 1, none⟩ = some (.slice A0_1 l0_1.length c0_1) := (blk_cell BK117.out 1).trans rfl
            have hcz31_2 : wr.cell? ⟨gb117, 2, none⟩ = some (.slice A0_2 l0_2.length c0_2) := (blk_cell BK117.out 2).trans rfl
            have hcz31_3 : wr.cell? ⟨gb117, 3, none⟩ = some (.slice A0_3 l0_3.length c0_3) := (blk_cell BK117.out 3).trans rfl
            have hcz31_4 : wr.cell? ⟨gb117, 4, none⟩ = some (.slice A0_4 l0_4.length c0_4) := (blk_cell BK117.out 4).trans rfl
            have hfz31_0 := blk_frozen BK117.out 0
            have hfz31_1 := blk_frozen BK117.out 1
            have hfz31_2 := blk_frozen BK117.out 2
            have hfz31_3 := blk_frozen BK117.out 3
            have hfz31_4 := blk_frozen BK117.out 4
            go_wp2
            go_meet
            case rel => exact ⟨_, (x120001_1), (u120001), H', ⟨by have := HK1.out; first | omega⟩, ⟨by exact HO_120001.out⟩, ⟨by exact BK117.out⟩, ⟨by exact BK118.out⟩, ⟨by exact BK119.out⟩, ⟨by exact HB.out⟩⟩
        · rw [if_neg c9] at H
          have c9b0 : decide (x4_1 < (l0_1.length : Int)) = false := decide_eq_false c9
          clear c9
          (first | skip)
          have H' := Aside0.mk H
          clear H
          have hnb32 := NB117_118.out
          have hnc32 := NB118_117.out
          have hnb33 := NB117_119.out
          have hnc33 := NB119_117.out
          have hcz34_0 : wr.cell? ⟨gb117, 0, none⟩ = some (.slice A0_0 l0_0.length c0_0) := (blk_cell BK117.out 0).trans rfl
          have hcz34_1 : wr.cell? ⟨gb117, 1, none⟩ = some (.slice A0_1 l0_1.length c0_1) := (blk_cell BK117.out 1).trans rfl
          have hcz34_2 : wr.cell? ⟨gb117, 2, none⟩ = some (.slice A0_2 l0_2.length c0_2) := (blk_cell BK117.out 2).trans rfl
          have hcz34_3 : wr.cell? ⟨gb117, 3, none⟩ = some (.slice A0_3 l0_3.length c0_3) := (blk_cell BK117.out 3).trans rfl
          have hcz34_4 : wr.cell? ⟨gb117, 4, none⟩ = some (.slice A0_4 l0_4.length c0_4) := (blk_cell BK117.out 4).trans rfl
          have hfz34_0 := blk_frozen BK117.out 0
          have hfz34_1 := blk_frozen BK117.out 1
          have hfz34_2 := blk_frozen BK117.out 2
          have hfz34_3 := blk_frozen BK117.out 3
          have hfz34_4 := blk_frozen BK117.out 4
          go_wp2
          go_meet
          case rel => exact ⟨_, (x120001_1), (u120001), H', ⟨by have := HK1.out; first | omega⟩, ⟨by exact HO_120001.out⟩, ⟨by exact BK117.out⟩, ⟨by exact BK118.out⟩, ⟨by exact BK119.out⟩, ⟨by exact HB.out⟩⟩
  case rest =>
    clear HC2
    try clear c1
    try clear p1
    try clear q1
    try clear hx1
    try clear c2
    try clear p2
    try clear c3
    try clear c6
    try clear p6
    try clear c7
    try clear c9
    try clear c9b0
    try clear c10
    try clear c10b0
    try clear c11
    try clear c11b0
    try clear p12
    try clear q12
    try clear hx12
    try clear c13
    try clear c13b0
    try clear c13b1
    try clear c14
    try clear c14b0
    try clear c14b1
    try clear c15
    try clear c16
    try clear c17
    try clear c20
    try clear c21
    try clear c22
    try clear c24
    try clear c26
    try clear c29
    try clear c30
    try clear c32
    try clear c33
    try clear hcz18_0
    try clear hcz18_1
    try clear hcz18_2
    try clear hcz18_3
    try clear hcz18_4
    try clear hcz23_0
    try clear hcz23_1
    try clear hcz25_0
    try clear hcz25_1
    try clear hcz25_2
    try clear hcz25_3
    try clear hcz25_4
    try clear hcz28_0
    try clear hcz28_1
    try clear hcz28_2
    try clear hcz28_3
    try clear hcz28_4
    try clear hcz31_0
    try clear hcz31_1
    try clear hcz31_2
    try clear hcz31_3
    try clear hcz31_4
    try clear hcz34_0
    try clear hcz34_1
    try clear hcz34_2
    try clear hcz34_3
    try clear hcz34_4
    try clear hcz8_0
    try clear hcz8_1
    try clear hcz8_2
    try clear hcz8_3
    try clear hcz8_4
    try clear hfz18_0
    try clear hfz18_1
    try clear hfz18_2
    try clear hfz18_3
    try clear hfz18_4
    try clear hfz23_0
    try clear hfz23_1
    try clear hfz25_0
    try clear hfz25_1
    try clear hfz25_2
    try clear hfz25_3
    try clear hfz25_4
    try clear hfz28_0
    try clear hfz28_1
    try clear hfz28_2
    try clear hfz28_3
    try clear hfz28_4
    try clear hfz31_0
    try clear hfz31_1
    try clear hfz31_2
    try clear hfz31_3
    try clear hfz31_4
    try clear hfz34_0
    try clear hfz34_1
    try clear hfz34_2
    try clear hfz34_3
    try clear hfz34_4
    try clear hfz8_0
    try clear hfz8_1
    try clear hfz8_2
    try clear hfz8_3
    try clear hfz8_4
    try clear hx120_0
    try clear hx120_1
    try clear p120
    try clear p2
    try clear q120
    obtain ⟨kq, x120001_1, u120001, HA, HJ1, HO_120001, BK117, BK118, BK119, HB⟩ := hcut
    cases kq with
    | zero => exact absurd HA.out (by simp [proofmarkref27_Few.j1])
    | succ kj1 =>
      have H := HA.out
      clear HA
      simp only [proofmarkref27_Few.j1] at H
      have H' := Aside0.mk H
      clear H
      go_wp2
      try simp only [Act.put, List.setIfInBounds_toArray, List.set_cons_succ, List.set_cons_zero]
      go_loopg [6] kj1 (fun kq v6 w' => ∃ (x6_2 : Int) (x120002_2 : List (S114)) (u120002 : Value), v6 = .int .i64 x6_2 ∧ Aside0 (proofmarkref27_Few.l1 kq x6_2 l0_0 l0_1 l0_2 l0_3 l0_4 x120001_1 x120002_2 = some (r1, r2, r3, r4, r5)) ∧ Aside0 (kq ≤ kj1) ∧ Aside0 (Kd.R k72 72 w' w.heap.size (fun _ => True) u120001 x120001_1) ∧ Aside0 (Kd.R k114 114 w' w.heap.size (fun _ => True) u120002 x120002_2) ∧ Aside0 (w'.heap[gb117]? = some (.cells #[(.slice A0_0 l0_0.length c0_0), (.slice A0_1 l0_1.length c0_1), (.slice A0_2 l0_2.length c0_2), (.slice A0_3 l0_3.length c0_3), (.slice A0_4 l0_4.length c0_4)] 27 (0, 0))) ∧ Aside0 (w'.heap[gb118]? = some (.cells #[(.slice none 0 0), (.slice none 0 0), (.slice none 0 0), (.slice none 0 0), (.slice none 0 0)] 27 (0, 0))) ∧ Aside0 (w'.heap[gb119]? = some (.cells #[(.slice none 0 0), u120001, u120002, (.slice none 0 0), (.slice none 0 0)] 27 (0, 0))) ∧ Aside0 (Below w.heap.size w w'))
      case atStart => exact ⟨(0), (([] : List (S114))), (.slice none 0 0), rfl, H', ⟨Nat.le_refl _⟩, ⟨by exact HO_120001.out⟩, ⟨by first | exact Kd.R_nil _ _ _ _ _⟩, ⟨by exact BK117.out⟩, ⟨by exact BK118.out⟩, ⟨by exact BK119.out⟩, ⟨by exact HB.out⟩⟩
      case round =>
        clear H'
        try clear c1
        try clear p1
        try clear q1
        try clear hx1
        try clear c2
        try clear p2
        try clear c3
        try clear c6
        try clear p6
        try clear c7
        try clear c9
        try clear c9b0
        try clear c10
        try clear c10b0
        try clear c11
        try clear c11b0
        try clear p12
        try clear q12
        try clear hx12
        try clear c13
        try clear c13b0
        try clear c13b1
        try clear c14
        try clear c14b0
        try clear c14b1
        try clear c15
        try clear c16
        try clear c17
        try clear c20
        try clear c21
        try clear c22
        try clear c24
        try clear c26
        try clear c29
        try clear c30
        try clear c32
        try clear c33
        try clear hcz18_0
        try clear hcz18_1
        try clear hcz18_2
        try clear hcz18_3
        try clear hcz18_4
        try clear hcz23_0
        try clear hcz23_1
        try clear hcz25_0
        try clear hcz25_1
        try clear hcz25_2
        try clear hcz25_3
        try clear hcz25_4
        try clear hcz28_0
        try clear hcz28_1
        try clear hcz28_2
        try clear hcz28_3
        try clear hcz28_4
        try clear hcz31_0
        try clear hcz31_1
        try clear hcz31_2
        try clear hcz31_3
        try clear hcz31_4
        try clear hcz34_0
        try clear hcz34_1
        try clear hcz34_2
        try clear hcz34_3
        try clear hcz34_4
        try clear hcz8_0
        try clear hcz8_1
        try clear hcz8_2
        try clear hcz8_3
        try clear hcz8_4
        try clear hfz18_0
        try clear hfz18_1
        try clear hfz18_2
        try clear hfz18_3
        try clear hfz18_4
        try clear hfz23_0
        try clear hfz23_1
        try clear hfz25_0
        try clear hfz25_1
        try clear hfz25_2
        try clear hfz25_3
        try clear hfz25_4
        try clear hfz28_0
        try clear hfz28_1
        try clear hfz28_2
        try clear hfz28_3
        try clear hfz28_4
        try clear hfz31_0
        try clear hfz31_1
        try clear hfz31_2
        try clear hfz31_3
        try clear hfz31_4
        try clear hfz34_0
        try clear hfz34_1
        try clear hfz34_2
        try clear hfz34_3
        try clear hfz34_4
        try clear hfz8_0
        try clear hfz8_1
        try clear hfz8_2
        try clear hfz8_3
        try clear hfz8_4
        try clear hx120_0
        try clear hx120_1
        try clear p1
        try clear p12
        try clear p120
        try clear p2
        try clear p6
        try clear q1
        try clear q12
        try clear q120
        obtain ⟨x6_2, x120002_2, u120002, rfl, HA, HK2, HO_120001, HO_120002, BK117, BK118, BK119, HB⟩ := hrel
        cases gk with
        | zero => exact absurd HA.out (by simp [proofmarkref27_Few.l1])
        | succ k2 =>
          have H := HA.out
          clear HA
          simp only [proofmarkref27_Few.l1] at H
          by_cases c35 : x6_2 < (l0_2.length : Int)
          · rw [if_pos c35] at H
            have c35b0 : decide (x6_2 < (l0_2.length : Int)) = true := decide_eq_true c35
            clear c35
            by_cases c36 : x6_2 < 20
            · rw [if_pos c36] at H
              have c36b0 : decide (x6_2 < 20) = true := decide_eq_true c36
              clear c36
              by_cases c37 : 0 ≤ x6_2
              · rw [if_pos c37] at H
                have c37b0 : decide (0 ≤ x6_2) = true := decide_eq_true c37
                clear c37
                obtain ⟨ji38, hji38⟩ : ∃ j_ : Int, (mn (((rd_T114 l0_2 x6_2).f0).size : Int) 12) = j_ := ⟨_, rfl⟩
                replace H : (if 0 ≤ (ji38) then (if (ji38) ≤ (((rd_T114 l0_2 x6_2).f0).size : Int) then (if x120002_2.length < 3518437208883 then (proofmarkref27_Few.l1 k2 (wrap64 (x6_2 + 1)) l0_0 l0_1 l0_2 l0_3 l0_4 x120001_1 (x120002_2 ++ [(⟨((rd_T114 l0_2 x6_2).f0).extract 0 ((ji38) : Int).toNat, (rd_T114 l0_2 x6_2).f1, (rd_T114 l0_2 x6_2).f2, (rd_T114 l0_2 x6_2).f3⟩ : S114)])) else (none)) else (none)) else (none)) = some (r1, r2, r3, r4, r5) := by first | (rw [hji38] at H; exact H)
                have hji38_ : (if 12 < (((rd_T114 l0_2 x6_2).f0).size : Int) then 12 else (((rd_T114 l0_2 x6_2).f0).size : Int)) = ji38 := hji38
                by_cases c39 : 0 ≤ (ji38)
                · rw [if_pos c39] at H
                  have c39b0 := eq_true c39
                  have c39b1 : decide (0 ≤ (ji38)) = true := decide_eq_true c39
                  clear c39
                  by_cases c40 : (ji38) ≤ (((rd_T114 l0_2 x6_2).f0).size : Int)
                  · rw [if_pos c40] at H
                    have c40b0 := eq_true c40
                    have c40b1 : decide ((ji38) ≤ (((rd_T114 l0_2 x6_2).f0).size : Int)) = true := decide_eq_true c40
                    clear c40
                    by_cases c41 : x120002_2.length < 3518437208883
                    · rw [if_pos c41] at H
                      have LMc41 := Aside0.mk c41
                      clear c41
                      obtain ⟨y127, hy127⟩ : ∃ y_ : List (S114), y_ = (x120002_2 ++ [(⟨((rd_T114 l0_2 x6_2).f0).extract 0 ((ji38) : Int).toNat, (rd_T114 l0_2 x6_2).f1, (rd_T114 l0_2 x6_2).f2, (rd_T114 l0_2 x6_2).f3⟩ : S114)]) := ⟨_, rfl⟩
                      replace H : (proofmarkref27_Few.l1 k2 (wrap64 (x6_2 + 1)) l0_0 l0_1 l0_2 l0_3 l0_4 x120001_1 y127) = some (r1, r2, r3, r4, r5) := by first | (rw [hy127]; with_reducible exact H)
                      have Ny127 := Aside0.mk hy127
                      clear hy127
                      have H' := Aside0.mk H
                      clear H
                      have hnb42 := NB117_118.out
                      have hnc42 := NB118_117.out
                      have hnb43 := NB117_119.out
                      have hnc43 := NB119_117.out
                      have hcz44_0 : wr.cell? ⟨gb117, 0, none⟩ = some (.slice A0_0 l0_0.length c0_0) := (blk_cell BK117.out 0).trans rfl
                      have hcz44_1 : wr.cell? ⟨gb117, 1, none⟩ = some (.slice A0_1 l0_1.length c0_1) := (blk_cell BK117.out 1).trans rfl
                      have hcz44_2 : wr.cell? ⟨gb117, 2, none⟩ = some (.slice A0_2 l0_2.length c0_2) := (blk_cell BK117.out 2).trans rfl
                      have hcz44_3 : wr.cell? ⟨gb117, 3, none⟩ = some (.slice A0_3 l0_3.length c0_3) := (blk_cell BK117.out 3).trans rfl
                      have hcz44_4 : wr.cell? ⟨gb117, 4, none⟩ = some (.slice A0_4 l0_4.length c0_4) := (blk_cell BK117.out 4).trans rfl
                      have hfz44_0 := blk_frozen BK117.out 0
                      have hfz44_1 := blk_frozen BK117.out 1
                      have hfz44_2 := blk_frozen BK117.out 2
                      have hfz44_3 := blk_frozen BK117.out 3
                      have hfz44_4 := blk_frozen BK117.out 4
                      have p125 : 0 ≤ (x6_2 : Int) := of_decide_eq_true (by first | (with_reducible assumption))
                      have q125 : x6_2 < (l0_2.length : Int) := of_decide_eq_true (by first | (with_reducible assumption))
                      obtain ⟨ad125, e125, hx125_0, hx125_1, hx125_2, hx125_3⟩ := at_T114 HR0_2.out x6_2 p125 q125
                      cases e125
                      replace hx125_0 := (HB.out.cell (World.block_lt_of_cell? w _ hx125_0)).trans hx125_0
                      replace hx125_1 := (HB.out.cell (World.block_lt_of_cell? w _ hx125_1)).trans hx125_1
                      replace hx125_2 := (HB.out.cell (World.block_lt_of_cell? w _ hx125_2)).trans hx125_2
                      replace hx125_3 := (HB.out.cell (World.block_lt_of_cell? w _ hx125_3)).trans hx125_3
                      replace p125 := eq_true p125
                      replace q125 := eq_true q125
                      go_wp2_with (first | ((with_reducible refine gate_dst (N := 7) rfl ?_); refine box_event ?hg (N := 7) ?hd (cs := #[.string (⟨#[]⟩ : ByteArray), .int .i64 0, .int .i64 0, .int .i64 0]) (t := 114) ?hr ?_; (case hd => rfl); (case hg => rfl); (case hr => first | (go_simp; done)); intro gb126 hg w45 hbox hb; have n0_ := Aside0.mk (Kd.R_below HO_120001.out hb); have n1_ := Aside0.mk (Kd.R_below (Kd.R_elderB HO_120002.out gb126 (Nat.le_of_eq hg.symm)) hb); have n2_ := Aside0.mk (blk_below BK117.out hb); have n3_ := Aside0.mk (blk_below BK118.out hb); have n4_ := Aside0.mk (blk_below BK119.out hb); have n5_ := Aside0.mk (below_step HB.out hb); have n6_ := Aside0.mk (hbox); have n7_ := Aside0.mk ((by rw [hg]; exact (below_size HB.out) : w.heap.size ≤ gb126)); have n8_ := Aside0.mk ((by rw [hg]; exact (below_size HB.out) : w.heap.size ≤ gb126)); have n9_ := Aside0.mk ((by rw [hg]; exact Nat.ne_of_lt (blk_lt BK117.out) : gb117 ≠ gb126)); have n10_ := Aside0.mk ((by rw [hg]; exact Nat.ne_of_gt (blk_lt BK117.out) : gb126 ≠ gb117)); have n11_ := Aside0.mk ((by rw [hg]; exact Nat.ne_of_lt (blk_lt BK118.out) : gb118 ≠ gb126)); have n12_ := Aside0.mk ((by rw [hg]; exact Nat.ne_of_gt (blk_lt BK118.out) : gb126 ≠ gb118)); have n13_ := Aside0.mk ((by rw [hg]; exact Nat.ne_of_lt (blk_lt BK119.out) : gb119 ≠ gb126)); have n14_ := Aside0.mk ((by rw [hg]; exact Nat.ne_of_gt (blk_lt BK119.out) : gb126 ≠ gb119)); clear HO_120001; clear HO_120002; clear BK117; clear BK118; clear BK119; clear HB; have HO_120001 := n0_; have HO_120002 := n1_; have BK117 := n2_; have BK118 := n3_; have BK119 := n4_; have HB := n5_; have BK126 := n6_; have GW126 := n7_; have GE126 := n8_; have NB117_126 := n9_; have NB126_117 := n10_; have NB118_126 := n11_; have NB126_118 := n12_; have NB119_126 := n13_; have NB126_119 := n14_; clear n0_ n1_ n2_ n3_ n4_ n5_ n6_ n7_ n8_ n9_ n10_ n11_ n12_ n13_ n14_; clear hb hbox hg; have hnb46 := NB126_117.out; have hnc46 := NB117_126.out; have hnb47 := NB126_118.out; have hnc47 := NB118_126.out; have hnb48 := NB126_119.out; have hnc48 := NB119_126.out; have hcz49_0 : w45.cell? ⟨gb126, 0, none⟩ = some (.string (⟨#[]⟩ : ByteArray)) := (blk_cell BK126.out 0).trans rfl; have hcz49_1 : w45.cell? ⟨gb126, 1, none⟩ = some (.int .i64 0) := (blk_cell BK126.out 1).trans rfl; have hcz49_2 : w45.cell? ⟨gb126, 2, none⟩ = some (.int .i64 0) := (blk_cell BK126.out 2).trans rfl; have hcz49_3 : w45.cell? ⟨gb126, 3, none⟩ = some (.int .i64 0) := (blk_cell BK126.out 3).trans rfl; have hfz49_0 := blk_frozen BK126.out 0; have hfz49_1 := blk_frozen BK126.out 1; have hfz49_2 := blk_frozen BK126.out 2; have hfz49_3 := blk_frozen BK126.out 3; have hnb50 := NB119_118.out; have hnc50 := NB118_119.out; have hcz51_0 : w45.cell? ⟨gb119, 0, none⟩ = some (.slice none 0 0) := (blk_cell BK119.out 0).trans rfl; have hcz51_1 : w45.cell? ⟨gb119, 1, none⟩ = some (u120001) := (blk_cell BK119.out 1).trans rfl; have hcz51_2 : w45.cell? ⟨gb119, 2, none⟩ = some (u120002) := (blk_cell BK119.out 2).trans rfl; have hcz51_3 : w45.cell? ⟨gb119, 3, none⟩ = some (.slice none 0 0) := (blk_cell BK119.out 3).trans rfl; have hcz51_4 : w45.cell? ⟨gb119, 4, none⟩ = some (.slice none 0 0) := (blk_cell BK119.out 4).trans rfl; have hfz51_0 := blk_frozen BK119.out 0; have hfz51_1 := blk_frozen BK119.out 1; have hfz51_2 := blk_frozen BK119.out 2; have hfz51_3 := blk_frozen BK119.out 3; have hfz51_4 := blk_frozen BK119.out 4) | ((with_reducible refine gate_builtin (b := .append) (xs := #[.tmp 64, .tmp 66]) rfl ?_); at_builtin; refine Kd.R_append k114 (w0 := w) w.heap.size rfl (.tmp 64) (.tmp 66) 24 114 (.agg #[(.string ⟨#[]⟩), (.int .i64 0), (.int .i64 0), (.int .i64 0)]) 40 rfl Tryz.underlying24 info114 rfl (by decide) (by omega) u120002 x120002_2 (⟨((rd_T114 l0_2 x6_2).f0).extract 0 ((ji38) : Int).toNat, (rd_T114 l0_2 x6_2).f1, (rd_T114 l0_2 x6_2).f2, (rd_T114 l0_2 x6_2).f3⟩ : S114) [.string (((rd_T114 l0_2 x6_2).f0).extract 0 ((ji38) : Int).toNat), .int .i64 ((rd_T114 l0_2 x6_2).f1), .int .i64 ((rd_T114 l0_2 x6_2).f2), .int .i64 ((rd_T114 l0_2 x6_2).f3)] (fun k_ => k_ ≠ gb126) (fun _ => False) rfl (by first | (go_simp; done)) ?aP (fun _ hk => hk.elim) ?aF ?aO ?aB ?aS ?aL ?_; (case aP => exact k114_mkM _ _ _ (⟨((rd_T114 l0_2 x6_2).f0).extract 0 ((ji38) : Int).toNat, (rd_T114 l0_2 x6_2).f1, (rd_T114 l0_2 x6_2).f2, (rd_T114 l0_2 x6_2).f3⟩ : S114)); (case aB => exact (by repeat (first | (with_reducible first | exact HB.out | refine below_set ?_ GE126.out)))); (case aF => exact (fun k_ hk => Kd.freshB (g := gb126) (o := .cells #[.string (((rd_T114 l0_2 x6_2).f0).extract 0 ((ji38) : Int).toNat), .int .i64 ((rd_T114 l0_2 x6_2).f1), .int .i64 ((rd_T114 l0_2 x6_2).f2), .int .i64 ((rd_T114 l0_2 x6_2).f3)] 114 (0, 0)) (by refine blk_put (cs := #[.string ((rd_T114 l0_2 x6_2).f0), .int .i64 ((rd_T114 l0_2 x6_2).f1), .int .i64 ((rd_T114 l0_2 x6_2).f2), .int .i64 ((rd_T114 l0_2 x6_2).f3)]) ?_ 0 _ rfl; refine blk_put (cs := #[.string ((rd_T114 l0_2 x6_2).f0), .int .i64 ((rd_T114 l0_2 x6_2).f1), .int .i64 ((rd_T114 l0_2 x6_2).f2), .int .i64 0]) ?_ 3 _ rfl; refine blk_put (cs := #[.string ((rd_T114 l0_2 x6_2).f0), .int .i64 ((rd_T114 l0_2 x6_2).f1), .int .i64 0, .int .i64 0]) ?_ 2 _ rfl; refine blk_put (cs := #[.string ((rd_T114 l0_2 x6_2).f0), .int .i64 0, .int .i64 0, .int .i64 0]) ?_ 1 _ rfl; refine blk_put (cs := #[.string (⟨#[]⟩ : ByteArray), .int .i64 0, .int .i64 0, .int .i64 0]) ?_ 0 _ rfl; exact BK126.out) k_ hk)); (case aO => exact (by exact Kd.R_mono (Kd.R_far (p := ⟨gb126, 0, none⟩) (Kd.R_far (p := ⟨gb126, 3, none⟩) (Kd.R_far (p := ⟨gb126, 2, none⟩) (Kd.R_far (p := ⟨gb126, 1, none⟩) (Kd.R_far (p := ⟨gb126, 0, none⟩) (Kd.R_mono HO_120002.out (fun k_ hk => (⟨hk, hk.2⟩ : _ ∧ k_ ≠ gb126))) (fun _ hk => hk.2) (.string ((rd_T114 l0_2 x6_2).f0))) (fun _ hk => hk.2) (.int .i64 ((rd_T114 l0_2 x6_2).f1))) (fun _ hk => hk.2) (.int .i64 ((rd_T114 l0_2 x6_2).f2))) (fun _ hk => hk.2) (.int .i64 ((rd_T114 l0_2 x6_2).f3))) (fun _ hk => hk.2) (.string (((rd_T114 l0_2 x6_2).f0).extract 0 ((ji38) : Int).toNat))) (fun _ hk => hk.1.2))); (case aS => exact (below_size (by repeat (first | (with_reducible first | exact HB.out | refine below_set ?_ GE126.out))))); (case aL => have := LMc41.out; omega); intro v128 w52 ho hb hg hat; rw [← Ny127.out] at ho; have n0_ := Aside0.mk (Kd.R_over' (by exact (Kd.R_mono (Kd.R_far (p := ⟨gb126, 0, none⟩) (Kd.R_far (p := ⟨gb126, 3, none⟩) (Kd.R_far (p := ⟨gb126, 2, none⟩) (Kd.R_far (p := ⟨gb126, 1, none⟩) (Kd.R_far (p := ⟨gb126, 0, none⟩) (Kd.R_types HO_120001.out BK126.out (by decide)) (fun _ hk => hk.2) (.string ((rd_T114 l0_2 x6_2).f0))) (fun _ hk => hk.2) (.int .i64 ((rd_T114 l0_2 x6_2).f1))) (fun _ hk => hk.2) (.int .i64 ((rd_T114 l0_2 x6_2).f2))) (fun _ hk => hk.2) (.int .i64 ((rd_T114 l0_2 x6_2).f3))) (fun _ hk => hk.2) (.string (((rd_T114 l0_2 x6_2).f0).extract 0 ((ji38) : Int).toNat))) (fun _ h_ => h_.1))) (Kd.R_typed (by exact (Kd.R_mono (Kd.R_far (p := ⟨gb126, 0, none⟩) (Kd.R_far (p := ⟨gb126, 3, none⟩) (Kd.R_far (p := ⟨gb126, 2, none⟩) (Kd.R_far (p := ⟨gb126, 1, none⟩) (Kd.R_far (p := ⟨gb126, 0, none⟩) (Kd.R_mono HO_120002.out (fun k_ hk => (⟨hk, hk.2⟩ : _ ∧ k_ ≠ gb126))) (fun _ hk => hk.2) (.string ((rd_T114 l0_2 x6_2).f0))) (fun _ hk => hk.2) (.int .i64 ((rd_T114 l0_2 x6_2).f1))) (fun _ hk => hk.2) (.int .i64 ((rd_T114 l0_2 x6_2).f2))) (fun _ hk => hk.2) (.int .i64 ((rd_T114 l0_2 x6_2).f3))) (fun _ hk => hk.2) (.string (((rd_T114 l0_2 x6_2).f0).extract 0 ((ji38) : Int).toNat))) (fun _ h_ => h_.1)))) (by decide) hg); have n1_ := Aside0.mk (blk_grown (g := gb117) (o := .cells #[.slice A0_0 l0_0.length c0_0, .slice A0_1 l0_1.length c0_1, .slice (some ad125) l0_2.length c0_2, .slice A0_3 l0_3.length c0_3, .slice A0_4 l0_4.length c0_4] 27 (0, 0)) (by refine blk_far ?_ NB117_126.out _; refine blk_far ?_ NB117_126.out _; refine blk_far ?_ NB117_126.out _; refine blk_far ?_ NB117_126.out _; refine blk_far ?_ NB117_126.out _; exact BK117.out) hg (Kd.R_ne HO_120002.out BK117.out (by decide))); have n2_ := Aside0.mk (blk_grown (g := gb118) (o := .cells #[.slice none 0 0, .slice none 0 0, .slice none 0 0, .slice none 0 0, .slice none 0 0] 27 (0, 0)) (by refine blk_far ?_ NB118_126.out _; refine blk_far ?_ NB118_126.out _; refine blk_far ?_ NB118_126.out _; refine blk_far ?_ NB118_126.out _; refine blk_far ?_ NB118_126.out _; exact BK118.out) hg (Kd.R_ne HO_120002.out BK118.out (by decide))); have n3_ := Aside0.mk (blk_grown (g := gb119) (o := .cells #[.slice none 0 0, u120001, u120002, .slice none 0 0, .slice none 0 0] 27 (0, 0)) (by refine blk_far ?_ NB119_126.out _; refine blk_far ?_ NB119_126.out _; refine blk_far ?_ NB119_126.out _; refine blk_far ?_ NB119_126.out _; refine blk_far ?_ NB119_126.out _; exact BK119.out) hg (Kd.R_ne HO_120002.out BK119.out (by decide))); have n4_ := Aside0.mk (blk_grown (g := gb126) (o := .cells #[.string (((rd_T114 l0_2 x6_2).f0).extract 0 ((ji38) : Int).toNat), .int .i64 ((rd_T114 l0_2 x6_2).f1), .int .i64 ((rd_T114 l0_2 x6_2).f2), .int .i64 ((rd_T114 l0_2 x6_2).f3)] 114 (0, 0)) (by refine blk_put (cs := #[.string ((rd_T114 l0_2 x6_2).f0), .int .i64 ((rd_T114 l0_2 x6_2).f1), .int .i64 ((rd_T114 l0_2 x6_2).f2), .int .i64 ((rd_T114 l0_2 x6_2).f3)]) ?_ 0 _ rfl; refine blk_put (cs := #[.string ((rd_T114 l0_2 x6_2).f0), .int .i64 ((rd_T114 l0_2 x6_2).f1), .int .i64 ((rd_T114 l0_2 x6_2).f2), .int .i64 0]) ?_ 3 _ rfl; refine blk_put (cs := #[.string ((rd_T114 l0_2 x6_2).f0), .int .i64 ((rd_T114 l0_2 x6_2).f1), .int .i64 0, .int .i64 0]) ?_ 2 _ rfl; refine blk_put (cs := #[.string ((rd_T114 l0_2 x6_2).f0), .int .i64 0, .int .i64 0, .int .i64 0]) ?_ 1 _ rfl; refine blk_put (cs := #[.string (⟨#[]⟩ : ByteArray), .int .i64 0, .int .i64 0, .int .i64 0]) ?_ 0 _ rfl; exact BK126.out) hg (Kd.R_away HO_120002.out (fun _ hk => hk.2))); have n5_ := Aside0.mk (hb); have n6_ := Aside0.mk (ho); clear HO_120001; clear BK117; clear BK118; clear BK119; clear BK126; clear HB; clear HO_120002; have HO_120001 := n0_; have BK117 := n1_; have BK118 := n2_; have BK119 := n3_; have BK126 := n4_; have HB := n5_; have HO129 := n6_; clear n0_ n1_ n2_ n3_ n4_ n5_ n6_; clear ho hb hg hat; obtain ⟨Ao53, co53, eo53⟩ := Kd.R_slice HO129.out; subst eo53; have hcz54_0 : w52.cell? ⟨gb119, 0, none⟩ = some (.slice none 0 0) := (blk_cell BK119.out 0).trans rfl; have hcz54_1 : w52.cell? ⟨gb119, 1, none⟩ = some (u120001) := (blk_cell BK119.out 1).trans rfl; have hcz54_2 : w52.cell? ⟨gb119, 2, none⟩ = some (u120002) := (blk_cell BK119.out 2).trans rfl; have hcz54_3 : w52.cell? ⟨gb119, 3, none⟩ = some (.slice none 0 0) := (blk_cell BK119.out 3).trans rfl; have hcz54_4 : w52.cell? ⟨gb119, 4, none⟩ = some (.slice none 0 0) := (blk_cell BK119.out 4).trans rfl; have hfz54_0 := blk_frozen BK119.out 0; have hfz54_1 := blk_frozen BK119.out 1; have hfz54_2 := blk_frozen BK119.out 2; have hfz54_3 := blk_frozen BK119.out 3; have hfz54_4 := blk_frozen BK119.out 4))
                      go_roundg k2
                      case measure => have := HJ1.out; have := HK2.out; omega
                      case rel => exact ⟨(wrap64 (x6_2 + 1)), (y127), (.slice Ao53 y127.length co53), rfl, H', ⟨by have := HJ1.out; have := HK2.out; omega⟩, ⟨by exact Kd.R_mono (Kd.R_far (p := ⟨gb119, 2, none⟩) (Kd.R_types HO_120001.out BK119.out (by decide)) (fun _ hk => hk.2) (.slice Ao53 y127.length co53)) (fun _ hk => trivial)⟩, ⟨by exact Kd.R_mono (Kd.R_far (p := ⟨gb119, 2, none⟩) (Kd.R_types HO129.out BK119.out (by decide)) (fun _ hk => hk.2) (.slice Ao53 y127.length co53)) (fun _ hk => trivial)⟩, ⟨by refine blk_far ?_ NB117_119.out _; exact BK117.out⟩, ⟨by refine blk_far ?_ NB118_119.out _; exact BK118.out⟩, ⟨by refine blk_put (cs := #[.slice none 0 0, u120001, u120002, .slice none 0 0, .slice none 0 0]) ?_ 2 _ rfl; exact BK119.out⟩, ⟨by repeat (first | (with_reducible first | exact HB.out | refine below_set ?_ GE119.out))⟩⟩
                    · rw [if_neg c41] at H
                      exact absurd H (by simp)
                  · rw [if_neg c40] at H
                    exact absurd H (by simp)
                · rw [if_neg c39] at H
                  exact absurd H (by simp)
              · rw [if_neg c37] at H
                exact absurd H (by simp)
            · rw [if_neg c36] at H
              have c36b0 : decide (x6_2 < 20) = false := decide_eq_false c36
              clear c36
              simp only [Option.some.injEq, Prod.mk.injEq] at H
              obtain ⟨rfl, rfl, rfl, rfl, rfl⟩ := H
              have hnb55 := NB117_118.out
              have hnc55 := NB118_117.out
              have hnb56 := NB117_119.out
              have hnc56 := NB119_117.out
              have hcz57_0 : wr.cell? ⟨gb117, 0, none⟩ = some (.slice A0_0 l0_0.length c0_0) := (blk_cell BK117.out 0).trans rfl
              have hcz57_1 : wr.cell? ⟨gb117, 1, none⟩ = some (.slice A0_1 l0_1.length c0_1) := (blk_cell BK117.out 1).trans rfl
              have hcz57_2 : wr.cell? ⟨gb117, 2, none⟩ = some (.slice A0_2 l0_2.length c0_2) := (blk_cell BK117.out 2).trans rfl
              have hcz57_3 : wr.cell? ⟨gb117, 3, none⟩ = some (.slice A0_3 l0_3.length c0_3) := (blk_cell BK117.out 3).trans rfl
              have hcz57_4 : wr.cell? ⟨gb117, 4, none⟩ = some (.slice A0_4 l0_4.length c0_4) := (blk_cell BK117.out 4).trans rfl
              have hfz57_0 := blk_frozen BK117.out 0
              have hfz57_1 := blk_frozen BK117.out 1
              have hfz57_2 := blk_frozen BK117.out 2
              have hfz57_3 := blk_frozen BK117.out 3
              have hfz57_4 := blk_frozen BK117.out 4
              have hnb58 := NB119_118.out
              have hnc58 := NB118_119.out
              have hcz59_0 : wr.cell? ⟨gb119, 0, none⟩ = some (.slice none 0 0) := (blk_cell BK119.out 0).trans rfl
              have hcz59_1 : wr.cell? ⟨gb119, 1, none⟩ = some (u120001) := (blk_cell BK119.out 1).trans rfl
              have hcz59_2 : wr.cell? ⟨gb119, 2, none⟩ = some (u120002) := (blk_cell BK119.out 2).trans rfl
              have hcz59_3 : wr.cell? ⟨gb119, 3, none⟩ = some (.slice none 0 0) := (blk_cell BK119.out 3).trans rfl
              have hcz59_4 : wr.cell? ⟨gb119, 4, none⟩ = some (.slice none 0 0) := (blk_cell BK119.out 4).trans rfl
              have hfz59_0 := blk_frozen BK119.out 0
              have hfz59_1 := blk_frozen BK119.out 1
              have hfz59_2 := blk_frozen BK119.out 2
              have hfz59_3 := blk_frozen BK119.out 3
              have hfz59_4 := blk_frozen BK119.out 4
              have hcz60_0 : wr.cell? ⟨gb118, 0, none⟩ = some (.slice none 0 0) := (blk_cell BK118.out 0).trans rfl
              have hcz60_1 : wr.cell? ⟨gb118, 1, none⟩ = some (.slice none 0 0) := (blk_cell BK118.out 1).trans rfl
              have hcz60_2 : wr.cell? ⟨gb118, 2, none⟩ = some (.slice none 0 0) := (blk_cell BK118.out 2).trans rfl
              have hcz60_3 : wr.cell? ⟨gb118, 3, none⟩ = some (.slice none 0 0) := (blk_cell BK118.out 3).trans rfl
              have hcz60_4 : wr.cell? ⟨gb118, 4, none⟩ = some (.slice none 0 0) := (blk_cell BK118.out 4).trans rfl
              have hfz60_0 := blk_frozen BK118.out 0
              have hfz60_1 := blk_frozen BK118.out 1
              have hfz60_2 := blk_frozen BK118.out 2
              have hfz60_3 := blk_frozen BK118.out 3
              have hfz60_4 := blk_frozen BK118.out 4
              obtain ⟨Ao61, co61, eo61⟩ := Kd.R_slice HO_120001.out
              subst eo61
              obtain ⟨Ao62, co62, eo62⟩ := Kd.R_slice HO_120002.out
              subst eo62
              go_wp2
              refine bodyPost_ret (results_cell_row rfl _ _ gb118 27 #[.slice none 0 0, .slice Ao61 x120001_1.length co61, .slice Ao62 x120002_2.length co62, .slice none 0 0, .slice none 0 0] (0, 0) _ rfl (by refine blk_put (cs := #[.slice none 0 0, .slice Ao61 x120001_1.length co61, .slice Ao62 x120002_2.length co62, .slice none 0 0, .slice none 0 0]) ?_ 4 _ rfl; refine blk_put (cs := #[.slice none 0 0, .slice Ao61 x120001_1.length co61, .slice Ao62 x120002_2.length co62, .slice none 0 0, .slice none 0 0]) ?_ 3 _ rfl; refine blk_put (cs := #[.slice none 0 0, .slice Ao61 x120001_1.length co61, .slice none 0 0, .slice none 0 0, .slice none 0 0]) ?_ 2 _ rfl; refine blk_put (cs := #[.slice none 0 0, .slice none 0 0, .slice none 0 0, .slice none 0 0, .slice none 0 0]) ?_ 1 _ rfl; refine blk_put (cs := #[.slice none 0 0, .slice none 0 0, .slice none 0 0, .slice none 0 0, .slice none 0 0]) ?_ 0 _ rfl; exact BK118.out) Tryz.underlying27 rfl (by kernel_rfl)) rfl ?_
              exact ⟨_, _, _, _, _, by first | rfl, by first | exact Kd.R_nil _ _ _ _ _, by exact Kd.R_mono (Kd.R_far (p := ⟨gb118, 4, none⟩) (Kd.R_far (p := ⟨gb118, 3, none⟩) (Kd.R_far (p := ⟨gb118, 2, none⟩) (Kd.R_far (p := ⟨gb118, 1, none⟩) (Kd.R_far (p := ⟨gb118, 0, none⟩) (Kd.R_types HO_120001.out BK118.out (by decide)) (fun _ hk => hk.2) (.slice none 0 0)) (fun _ hk => hk.2) (.slice Ao61 x120001_1.length co61)) (fun _ hk => hk.2) (.slice Ao62 x120002_2.length co62)) (fun _ hk => hk.2) (.slice none 0 0)) (fun _ hk => hk.2) (.slice none 0 0)) (fun _ hk => (by simp [Value.ownBlock])), by exact Kd.R_mono (Kd.R_far (p := ⟨gb118, 4, none⟩) (Kd.R_far (p := ⟨gb118, 3, none⟩) (Kd.R_far (p := ⟨gb118, 2, none⟩) (Kd.R_far (p := ⟨gb118, 1, none⟩) (Kd.R_far (p := ⟨gb118, 0, none⟩) (Kd.R_types HO_120002.out BK118.out (by decide)) (fun _ hk => hk.2) (.slice none 0 0)) (fun _ hk => hk.2) (.slice Ao61 x120001_1.length co61)) (fun _ hk => hk.2) (.slice Ao62 x120002_2.length co62)) (fun _ hk => hk.2) (.slice none 0 0)) (fun _ hk => hk.2) (.slice none 0 0)) (fun _ hk => trivial), by first | exact Kd.R_nil _ _ _ _ _, by first | exact Kd.R_nil _ _ _ _ _, by repeat (first | (with_reducible first | exact HB.out | refine below_set ?_ GE118.out))⟩
          · rw [if_neg c35] at H
            have c35b0 : decide (x6_2 < (l0_2.length : Int)) = false := decide_eq_false c35
            clear c35
            simp only [Option.some.injEq, Prod.mk.injEq] at H
            obtain ⟨rfl, rfl, rfl, rfl, rfl⟩ := H
            have hnb63 := NB117_118.out
            have hnc63 := NB118_117.out
            have hnb64 := NB117_119.out
            have hnc64 := NB119_117.out
            have hcz65_0 : wr.cell? ⟨gb117, 0, none⟩ = some (.slice A0_0 l0_0.length c0_0) := (blk_cell BK117.out 0).trans rfl
            have hcz65_1 : wr.cell? ⟨gb117, 1, none⟩ = some (.slice A0_1 l0_1.length c0_1) := (blk_cell BK117.out 1).trans rfl
            have hcz65_2 : wr.cell? ⟨gb117, 2, none⟩ = some (.slice A0_2 l0_2.length c0_2) := (blk_cell BK117.out 2).trans rfl
            have hcz65_3 : wr.cell? ⟨gb117, 3, none⟩ = some (.slice A0_3 l0_3.length c0_3) := (blk_cell BK117.out 3).trans rfl
            have hcz65_4 : wr.cell? ⟨gb117, 4, none⟩ = some (.slice A0_4 l0_4.length c0_4) := (blk_cell BK117.out 4).trans rfl
            have hfz65_0 := blk_frozen BK117.out 0
            have hfz65_1 := blk_frozen BK117.out 1
            have hfz65_2 := blk_frozen BK117.out 2
            have hfz65_3 := blk_frozen BK117.out 3
            have hfz65_4 := blk_frozen BK117.out 4
            have hnb66 := NB119_118.out
            have hnc66 := NB118_119.out
            have hcz67_0 : wr.cell? ⟨gb119, 0, none⟩ = some (.slice none 0 0) := (blk_cell BK119.out 0).trans rfl
            have hcz67_1 : wr.cell? ⟨gb119, 1, none⟩ = some (u120001) := (blk_cell BK119.out 1).trans rfl
            have hcz67_2 : wr.cell? ⟨gb119, 2, none⟩ = some (u120002) := (blk_cell BK119.out 2).trans rfl
            have hcz67_3 : wr.cell? ⟨gb119, 3, none⟩ = some (.slice none 0 0) := (blk_cell BK119.out 3).trans rfl
            have hcz67_4 : wr.cell? ⟨gb119, 4, none⟩ = some (.slice none 0 0) := (blk_cell BK119.out 4).trans rfl
            have hfz67_0 := blk_frozen BK119.out 0
            have hfz67_1 := blk_frozen BK119.out 1
            have hfz67_2 := blk_frozen BK119.out 2
            have hfz67_3 := blk_frozen BK119.out 3
            have hfz67_4 := blk_frozen BK119.out 4
            have hcz68_0 : wr.cell? ⟨gb118, 0, none⟩ = some (.slice none 0 0) := (blk_cell BK118.out 0).trans rfl
            have hcz68_1 : wr.cell? ⟨gb118, 1, none⟩ = some (.slice none 0 0) := (blk_cell BK118.out 1).trans rfl
            have hcz68_2 : wr.cell? ⟨gb118, 2, none⟩ = some (.slice none 0 0) := (blk_cell BK118.out 2).trans rfl
            have hcz68_3 : wr.cell? ⟨gb118, 3, none⟩ = some (.slice none 0 0) := (blk_cell BK118.out 3).trans rfl
            have hcz68_4 : wr.cell? ⟨gb118, 4, none⟩ = some (.slice none 0 0) := (blk_cell BK118.out 4).trans rfl
            have hfz68_0 := blk_frozen BK118.out 0
            have hfz68_1 := blk_frozen BK118.out 1
            have hfz68_2 := blk_frozen BK118.out 2
            have hfz68_3 := blk_frozen BK118.out 3
            have hfz68_4 := blk_frozen BK118.out 4
            obtain ⟨Ao69, co69, eo69⟩ := Kd.R_slice HO_120001.out
            subst eo69
            obtain ⟨Ao70, co70, eo70⟩ := Kd.R_slice HO_120002.out
            subst eo70
            go_wp2
            refine bodyPost_ret (results_cell_row rfl _ _ gb118 27 #[.slice none 0 0, .slice Ao69 x120001_1.length co69, .slice Ao70 x120002_2.length co70, .slice none 0 0, .slice none 0 0] (0, 0) _ rfl (by refine blk_put (cs := #[.slice none 0 0, .slice Ao69 x120001_1.length co69, .slice Ao70 x120002_2.length co70, .slice none 0 0, .slice none 0 0]) ?_ 4 _ rfl; refine blk_put (cs := #[.slice none 0 0, .slice Ao69 x120001_1.length co69, .slice Ao70 x120002_2.length co70, .slice none 0 0, .slice none 0 0]) ?_ 3 _ rfl; refine blk_put (cs := #[.slice none 0 0, .slice Ao69 x120001_1.length co69, .slice none 0 0, .slice none 0 0, .slice none 0 0]) ?_ 2 _ rfl; refine blk_put (cs := #[.slice none 0 0, .slice none 0 0, .slice none 0 0, .slice none 0 0, .slice none 0 0]) ?_ 1 _ rfl; refine blk_put (cs := #[.slice none 0 0, .slice none 0 0, .slice none 0 0, .slice none 0 0, .slice none 0 0]) ?_ 0 _ rfl; exact BK118.out) Tryz.underlying27 rfl (by kernel_rfl)) rfl ?_
            exact ⟨_, _, _, _, _, by first | rfl, by first | exact Kd.R_nil _ _ _ _ _, by exact Kd.R_mono (Kd.R_far (p := ⟨gb118, 4, none⟩) (Kd.R_far (p := ⟨gb118, 3, none⟩) (Kd.R_far (p := ⟨gb118, 2, none⟩) (Kd.R_far (p := ⟨gb118, 1, none⟩) (Kd.R_far (p := ⟨gb118, 0, none⟩) (Kd.R_types HO_120001.out BK118.out (by decide)) (fun _ hk => hk.2) (.slice none 0 0)) (fun _ hk => hk.2) (.slice Ao69 x120001_1.length co69)) (fun _ hk => hk.2) (.slice Ao70 x120002_2.length co70)) (fun _ hk => hk.2) (.slice none 0 0)) (fun _ hk => hk.2) (.slice none 0 0)) (fun _ hk => (by simp [Value.ownBlock])), by exact Kd.R_mono (Kd.R_far (p := ⟨gb118, 4, none⟩) (Kd.R_far (p := ⟨gb118, 3, none⟩) (Kd.R_far (p := ⟨gb118, 2, none⟩) (Kd.R_far (p := ⟨gb118, 1, none⟩) (Kd.R_far (p := ⟨gb118, 0, none⟩) (Kd.R_types HO_120002.out BK118.out (by decide)) (fun _ hk => hk.2) (.slice none 0 0)) (fun _ hk => hk.2) (.slice Ao69 x120001_1.length co69)) (fun _ hk => hk.2) (.slice Ao70 x120002_2.length co70)) (fun _ hk => hk.2) (.slice none 0 0)) (fun _ hk => hk.2) (.slice none 0 0)) (fun _ hk => trivial), by first | exact Kd.R_nil _ _ _ _ _, by first | exact Kd.R_nil _ _ _ _ _, by repeat (first | (with_reducible first | exact HB.out | refine below_set ?_ GE118.out))⟩

/-! ### proofmarkref27_Latches: function 27 -/
def proofmarkref27_Latches.f (a0_0 : Int) (l0_1 : List (S199)) (l0_2 : List (S200)) (l0_3 : List (S94)) (l0_4 : List (S202)) : Option (Int × (List (S199)) × (List (S200)) × (List (S94)) × (List (S202))) := (some (([] : List (S94)) : List (S94))).bind fun y132 => (if 0 ≤ (mn (l0_3.length : Int) 40) then (if (mn (l0_3.length : Int) 40) ≤ (l0_3.length : Int) then ((some (l0_3.take ((mn (l0_3.length : Int) 40) : Int).toNat : List (S94))).bind fun y135 => (if y132.length + y135.length < 3518437208883 then (some (0, ([] : List (S199)), ([] : List (S200)), (y132 ++ y135), ([] : List (S202)))) else (none))) else (none)) else (none))
set_option maxHeartbeats 8000000 in
set_option maxRecDepth 100000 in
theorem proofmarkref27_Latches.calls (a0_0 : Int) (A0_1 : Option Addr) (c0_1 : Nat) (l0_1 : List (S199)) (A0_2 : Option Addr) (c0_2 : Nat) (l0_2 : List (S200)) (A0_3 : Option Addr) (c0_3 : Nat) (l0_3 : List (S94)) (A0_4 : Option Addr) (c0_4 : Nat) (l0_4 : List (S202)) (r1 : Int) (r2 : List (S199)) (r3 : List (S200)) (r4 : List (S94)) (r5 : List (S202)) (w : World) (hr0_1 : Kd.C k199 w A0_1 l0_1.length l0_1) (hc0_1 : l0_1.length ≤ c0_1) (hr0_2 : Kd.C k200 w A0_2 l0_2.length l0_2) (hc0_2 : l0_2.length ≤ c0_2) (hr0_3 : Kd.C k94 w A0_3 l0_3.length l0_3) (hc0_3 : l0_3.length ≤ c0_3) (hr0_4 : Kd.C k202 w A0_4 l0_4.length l0_4) (hc0_4 : l0_4.length ≤ c0_4) (h : proofmarkref27_Latches.f a0_0 l0_1 l0_2 l0_3 l0_4 = some (r1, r2, r3, r4, r5)) :
    Calls Tryz.prog 27 #[.agg #[.int .i64 a0_0, .slice A0_1 l0_1.length c0_1, .slice A0_2 l0_2.length c0_2, .slice A0_3 l0_3.length c0_3, .slice A0_4 l0_4.length c0_4]] w fun e w' => ∃ v1_ v2_ v3_ v4_ : Value, e = .returned (.agg #[.int .i64 r1, v1_, v2_, v3_, v4_]) ∧ Kd.R k199 199 w' w.heap.size (fun _ => True) v1_ r2 ∧ Kd.R k200 200 w' w.heap.size (fun _ => True) v2_ r3 ∧ Kd.R k94 94 w' w.heap.size (fun _ => True) v3_ r4 ∧ Kd.R k202 202 w' w.heap.size (fun _ => True) v4_ r5 ∧ Below w.heap.size w w' := by
  have hu35 := Tryz.underlying35
  have HR0_1 := Aside0.mk hr0_1
  have HC0_1 := Aside0.mk hc0_1
  clear hr0_1 hc0_1
  have HR0_2 := Aside0.mk hr0_2
  have HC0_2 := Aside0.mk hc0_2
  clear hr0_2 hc0_2
  have HR0_3 := Aside0.mk hr0_3
  have HC0_3 := Aside0.mk hc0_3
  clear hr0_3 hc0_3
  have HR0_4 := Aside0.mk hr0_4
  have HC0_4 := Aside0.mk hc0_4
  clear hr0_4 hc0_4
  have HB := Aside0.mk (Below.refl w.heap.size w)
  have H : ((some (([] : List (S94)) : List (S94))).bind fun y132 => (if 0 ≤ (mn (l0_3.length : Int) 40) then (if (mn (l0_3.length : Int) 40) ≤ (l0_3.length : Int) then ((some (l0_3.take ((mn (l0_3.length : Int) 40) : Int).toNat : List (S94))).bind fun y135 => (if y132.length + y135.length < 3518437208883 then (some (0, ([] : List (S199)), ([] : List (S200)), (y132 ++ y135), ([] : List (S202)))) else (none))) else (none)) else (none))) = some (r1, r2, r3, r4, r5) := h
  clear h
  obtain ⟨y132, hy132⟩ : ∃ y_ : List (S94), y_ = (([] : List (S94))) := ⟨_, rfl⟩
  replace H : (if 0 ≤ (mn (l0_3.length : Int) 40) then (if (mn (l0_3.length : Int) 40) ≤ (l0_3.length : Int) then ((some (l0_3.take ((mn (l0_3.length : Int) 40) : Int).toNat : List (S94))).bind fun y135 => (if y132.length + y135.length < 3518437208883 then (some (0, ([] : List (S199)), ([] : List (S200)), (y132 ++ y135), ([] : List (S202)))) else (none))) else (none)) else (none)) = some (r1, r2, r3, r4, r5) := by first | (have H2_ := (Option.bind_some _ _).symm.trans H; rw [hy132]; with_reducible exact H2_)
  have Ny132 := Aside0.mk hy132
  clear hy132
  obtain ⟨ji2, hji2⟩ : ∃ j_ : Int, (mn (l0_3.length : Int) 40) = j_ := ⟨_, rfl⟩
  replace H : (if 0 ≤ (ji2) then (if (ji2) ≤ (l0_3.length : Int) then ((some (l0_3.take ((ji2) : Int).toNat : List (S94))).bind fun y135 => (if y132.length + y135.length < 3518437208883 then (some (0, ([] : List (S199)), ([] : List (S200)), (y132 ++ y135), ([] : List (S202)))) else (none))) else (none)) else (none)) = some (r1, r2, r3, r4, r5) := by first | (rw [hji2] at H; exact H)
  (try (have hji2h : ji2 ≤ 40 := by (rw [← hji2]; unfold mn; (repeat' split) <;> omega)))
  (try (have hji2g : ji2 ≤ 64 := by omega))
  (try (have hji2l : 0 ≤ ji2 := by (rw [← hji2]; unfold mn; (repeat' split) <;> omega)))
  (try (have hji2m : 0 ≤ ji2 := by omega))
  have hji2_ : (if 40 < (l0_3.length : Int) then 40 else (l0_3.length : Int)) = ji2 := hji2
  by_cases c3 : 0 ≤ (ji2)
  · rw [if_pos c3] at H
    have c3b0 := eq_true c3
    have c3b1 : decide (0 ≤ (ji2)) = true := decide_eq_true c3
    clear c3
    by_cases c4 : (ji2) ≤ (l0_3.length : Int)
    · rw [if_pos c4] at H
      have c4b0 := eq_true c4
      have c4b1 : decide ((ji2) ≤ (l0_3.length : Int)) = true := decide_eq_true c4
      clear c4
      obtain ⟨y135, hy135⟩ : ∃ y_ : List (S94), y_ = (l0_3.take ((ji2) : Int).toNat) := ⟨_, rfl⟩
      replace H : (if y132.length + y135.length < 3518437208883 then (some (0, ([] : List (S199)), ([] : List (S200)), (y132 ++ y135), ([] : List (S202)))) else (none)) = some (r1, r2, r3, r4, r5) := by first | (have H2_ := (Option.bind_some _ _).symm.trans H; rw [hy135]; with_reducible exact H2_)
      have Ny135 := Aside0.mk hy135
      clear hy135
      by_cases c5 : y132.length + y135.length < 3518437208883
      · rw [if_pos c5] at H
        have LMc5 := Aside0.mk c5
        clear c5
        obtain ⟨y139, hy139⟩ : ∃ y_ : List (S94), y_ = (y132 ++ y135) := ⟨_, rfl⟩
        replace H : (some (0, ([] : List (S199)), ([] : List (S200)), y139, ([] : List (S202)))) = some (r1, r2, r3, r4, r5) := by first | (rw [hy139]; with_reducible exact H)
        have Ny139 := Aside0.mk hy139
        clear hy139
        simp only [Option.some.injEq, Prod.mk.injEq] at H
        obtain ⟨rfl, rfl, rfl, rfl, rfl⟩ := H
        go_enter Tryz.func27, Tryz.ntmps27
        go_wp2_with (first | ((with_reducible refine gate_dst (N := 1) rfl ?_); refine box_event ?hg (N := 1) ?hd (cs := #[.int .i64 a0_0, .slice A0_1 l0_1.length c0_1, .slice A0_2 l0_2.length c0_2, .slice A0_3 l0_3.length c0_3, .slice A0_4 l0_4.length c0_4]) (t := 35) ?hr ?_; (case hd => rfl); (case hg => rfl); (case hr => first | (go_simp; done)); intro gb130 hg w6 hbox hb; have n0_ := Aside0.mk (below_step HB.out hb); have n1_ := Aside0.mk (hbox); have n2_ := Aside0.mk ((by rw [hg]; exact (below_size HB.out) : w.heap.size ≤ gb130)); have n3_ := Aside0.mk ((by rw [hg]; exact (below_size HB.out) : w.heap.size ≤ gb130)); clear HB; have HB := n0_; have BK130 := n1_; have GW130 := n2_; have GE130 := n3_; clear n0_ n1_ n2_ n3_; clear hb hbox hg) | ((with_reducible refine gate_dst (N := 2) rfl ?_); refine box_event ?hg (N := 2) ?hd (cs := #[.int .i64 0, .slice none 0 0, .slice none 0 0, .slice none 0 0, .slice none 0 0]) (t := 35) ?hr ?_; (case hd => rfl); (case hg => rfl); (case hr => first | (go_simp; done)); intro gb131 hg w7 hbox hb; have n0_ := Aside0.mk (blk_below BK130.out hb); have n1_ := Aside0.mk (below_step HB.out hb); have n2_ := Aside0.mk (hbox); have n3_ := Aside0.mk ((by rw [hg]; exact (below_size HB.out) : w.heap.size ≤ gb131)); have n4_ := Aside0.mk ((by rw [hg]; exact (below_size HB.out) : w.heap.size ≤ gb131)); have n5_ := Aside0.mk ((by rw [hg]; exact Nat.ne_of_lt (blk_lt BK130.out) : gb130 ≠ gb131)); have n6_ := Aside0.mk ((by rw [hg]; exact Nat.ne_of_gt (blk_lt BK130.out) : gb131 ≠ gb130)); clear BK130; clear HB; have BK130 := n0_; have HB := n1_; have BK131 := n2_; have GW131 := n3_; have GE131 := n4_; have NB130_131 := n5_; have NB131_130 := n6_; clear n0_ n1_ n2_ n3_ n4_ n5_ n6_; clear hb hbox hg) | ((with_reducible refine gate_dst (N := 3) rfl ?_); refine Kd.R_lit k94 _ 94 ?hg (N := 3) ?hd (xs := ([] : List (S94))) (inner := []) (ok := fun _ => True) (okp := fun _ => True) ?hr ?hp (fun _ hk => hk) trivial (Below.refl _ _) (Nat.le_refl _) (by simp) ?_; (case hd => rfl); (case hg => rfl); (case hr => first | (go_simp; done)); (case hp => exact (Reps.none _ _)); intro v133 w8 ho9 hb hg_ hnew_; clear hg_ hnew_; (first | rw [← Ny132.out] at ho9); have n0_ := Aside0.mk (Kd.R_lower ho9 (below_size HB.out)); have n1_ := Aside0.mk (blk_below BK130.out hb); have n2_ := Aside0.mk (blk_below BK131.out hb); have n3_ := Aside0.mk (below_step HB.out hb); clear BK130; clear BK131; clear HB; have HO134 := n0_; have BK130 := n1_; have BK131 := n2_; have HB := n3_; clear n0_ n1_ n2_ n3_; clear hb ho9; have hnb10 := NB130_131.out; have hnc10 := NB131_130.out; have hcz11_0 : w8.cell? ⟨gb130, 0, none⟩ = some (.int .i64 a0_0) := (blk_cell BK130.out 0).trans rfl; have hcz11_1 : w8.cell? ⟨gb130, 1, none⟩ = some (.slice A0_1 l0_1.length c0_1) := (blk_cell BK130.out 1).trans rfl; have hcz11_2 : w8.cell? ⟨gb130, 2, none⟩ = some (.slice A0_2 l0_2.length c0_2) := (blk_cell BK130.out 2).trans rfl; have hcz11_3 : w8.cell? ⟨gb130, 3, none⟩ = some (.slice A0_3 l0_3.length c0_3) := (blk_cell BK130.out 3).trans rfl; have hcz11_4 : w8.cell? ⟨gb130, 4, none⟩ = some (.slice A0_4 l0_4.length c0_4) := (blk_cell BK130.out 4).trans rfl; have hfz11_0 := blk_frozen BK130.out 0; have hfz11_1 := blk_frozen BK130.out 1; have hfz11_2 := blk_frozen BK130.out 2; have hfz11_3 := blk_frozen BK130.out 3; have hfz11_4 := blk_frozen BK130.out 4; have q12 : ((ji2) : Int) ≤ ((l0_3.length : Int) : Int) := of_decide_eq_true (by first | (with_reducible assumption)); obtain ⟨i012, hi012, _, hsz12, _⟩ := info_parts info94; have hroom12 : l0_3.length ≤ c0_3 := HC0_3.out; have hC12 : Kd.C k94 _ A0_3 l0_3.length l0_3 := HR0_3.out; have hcut12 := cut_to (P := Tryz.prog) 32 94 .i64 Tryz.underlying32 hi012 A0_3 l0_3.length c0_3 (ji2) (of_decide_eq_true (by first | (with_reducible assumption))) q12 hroom12; have hr12 := Kd.C_take (m := ((ji2) : Int).toNat) hC12 (by omega); have hy12 : y135.length = ((ji2) : Int).toNat := (by rw [Ny135.out, List.length_take]; omega); rw [← Ny135.out] at hr12; rw [← hy12] at hcut12; have HR138 := Aside0.mk hr12; have HC138 := Aside0.mk (show y135.length ≤ c0_3 from by omega); clear hr12 hC12 hroom12 hi012 hsz12; have KY12 := Aside0.mk hy12; clear hy12; replace q12 := eq_true q12) | ((with_reducible refine gate_builtin (b := .append) (xs := #[.tmp 3, .tmp 10]) rfl ?_); at_builtin; refine Kd.R_append_rows k94 (w0 := w) w.heap.size rfl (.tmp 3) (.tmp 10) 32 94 (.agg #[(.int .i64 0), (.int .i64 0), (.bool false), (.int .i64 0), (.int .i64 0)]) 40 rfl Tryz.underlying32 info94 rfl (by decide) (by omega) v133 y132 y135 _ _ _ (fun _ => True) (fun _ => False) rfl rfl ?aO ?aR (fun _ _ h => h) (fun _ h => h.elim) ?aF ?aB ?aS ?aL ?_; (case aR => repeat (first | exact (Kd.C_below HR138.out HB.out))); (case aB => exact HB.out); (case aF => exact (fun _ _ => trivial)); (case aO => exact HO134.out); (case aS => exact (below_size HB.out)); (case aL => have := LMc5.out; omega); intro v140 w13 ho hb hg hat; rw [← Ny139.out] at ho; have n0_ := Aside0.mk (blk_grown (g := gb130) (o := .cells #[.int .i64 a0_0, .slice A0_1 l0_1.length c0_1, .slice A0_2 l0_2.length c0_2, .slice A0_3 l0_3.length c0_3, .slice A0_4 l0_4.length c0_4] 35 (0, 0)) BK130.out hg (Kd.R_ne HO134.out BK130.out (by decide))); have n1_ := Aside0.mk (blk_grown (g := gb131) (o := .cells #[.int .i64 0, .slice none 0 0, .slice none 0 0, .slice none 0 0, .slice none 0 0] 35 (0, 0)) BK131.out hg (Kd.R_ne HO134.out BK131.out (by decide))); have n2_ := Aside0.mk (hb); have n3_ := Aside0.mk (ho); clear BK130; clear BK131; clear HB; clear HO134; have BK130 := n0_; have BK131 := n1_; have HB := n2_; have HO141 := n3_; clear n0_ n1_ n2_ n3_; clear ho hb hg hat; obtain ⟨Ao14, co14, eo14⟩ := Kd.R_slice HO141.out; subst eo14; have hcz15_0 : w13.cell? ⟨gb131, 0, none⟩ = some (.int .i64 0) := (blk_cell BK131.out 0).trans rfl; have hcz15_1 : w13.cell? ⟨gb131, 1, none⟩ = some (.slice none 0 0) := (blk_cell BK131.out 1).trans rfl; have hcz15_2 : w13.cell? ⟨gb131, 2, none⟩ = some (.slice none 0 0) := (blk_cell BK131.out 2).trans rfl; have hcz15_3 : w13.cell? ⟨gb131, 3, none⟩ = some (.slice none 0 0) := (blk_cell BK131.out 3).trans rfl; have hcz15_4 : w13.cell? ⟨gb131, 4, none⟩ = some (.slice none 0 0) := (blk_cell BK131.out 4).trans rfl; have hfz15_0 := blk_frozen BK131.out 0; have hfz15_1 := blk_frozen BK131.out 1; have hfz15_2 := blk_frozen BK131.out 2; have hfz15_3 := blk_frozen BK131.out 3; have hfz15_4 := blk_frozen BK131.out 4))
        refine bodyPost_ret (results_cell_row rfl _ _ gb131 35 #[.int .i64 0, .slice none 0 0, .slice none 0 0, .slice Ao14 y139.length co14, .slice none 0 0] (0, 0) _ rfl (by refine blk_put (cs := #[.int .i64 0, .slice none 0 0, .slice none 0 0, .slice Ao14 y139.length co14, .slice none 0 0]) ?_ 4 _ rfl; refine blk_put (cs := #[.int .i64 0, .slice none 0 0, .slice none 0 0, .slice none 0 0, .slice none 0 0]) ?_ 3 _ rfl; refine blk_put (cs := #[.int .i64 0, .slice none 0 0, .slice none 0 0, .slice none 0 0, .slice none 0 0]) ?_ 2 _ rfl; refine blk_put (cs := #[.int .i64 0, .slice none 0 0, .slice none 0 0, .slice none 0 0, .slice none 0 0]) ?_ 1 _ rfl; refine blk_put (cs := #[.int .i64 0, .slice none 0 0, .slice none 0 0, .slice none 0 0, .slice none 0 0]) ?_ 0 _ rfl; exact BK131.out) Tryz.underlying35 rfl (by kernel_rfl)) rfl ?_
        exact ⟨_, _, _, _, by first | rfl, by first | exact Kd.R_nil _ _ _ _ _, by first | exact Kd.R_nil _ _ _ _ _, by exact Kd.R_mono (Kd.R_far (p := ⟨gb131, 4, none⟩) (Kd.R_far (p := ⟨gb131, 3, none⟩) (Kd.R_far (p := ⟨gb131, 2, none⟩) (Kd.R_far (p := ⟨gb131, 1, none⟩) (Kd.R_far (p := ⟨gb131, 0, none⟩) (Kd.R_types HO141.out BK131.out (by decide)) (fun _ hk => hk.2) (.int .i64 0)) (fun _ hk => hk.2) (.slice none 0 0)) (fun _ hk => hk.2) (.slice none 0 0)) (fun _ hk => hk.2) (.slice Ao14 y139.length co14)) (fun _ hk => hk.2) (.slice none 0 0)) (fun _ hk => trivial), by first | exact Kd.R_nil _ _ _ _ _, by repeat (first | (with_reducible first | exact HB.out | refine below_set ?_ GE131.out))⟩
      · rw [if_neg c5] at H
        exact absurd H (by simp)
    · rw [if_neg c4] at H
      exact absurd H (by simp)
  · rw [if_neg c3] at H
    exact absurd H (by simp)

end Go.Proofs.YtmfekngjhiofaaaGreatDoor.Q
