-- Written by the session's own program (wip/tools/ownprint.py) for this claim: functions of the translation as plain Lean functions, and their contracts.
import Derived.Test.YtmfekngjhiofaaaDoorQx0
namespace Go.Proofs.YtmfekngjhiofaaaDoor.Q
open Go.RowKit Go.Proofs.YtmfekngjhiofaaaDoorW.PrintWords Go.Proofs.YtmfekngjhiofaaaDoorW.PrintLast Go.Proofs.YtmfekngjhiofaaaDoorW.PrintMore
attribute [local go_sem] max2_int min2_int max_two min_two max_three min_three max_four min_four   -- for this text's walks alone
set_option linter.unusedVariables false
set_option linter.unusedSimpArgs false

/-! ### proofmarkref30_Bits: function 22 -/
mutual
def proofmarkref30_Bits.l0 : Nat → Int → List (S96) → List (S111) → List (S94) → List (S73) → List (S111) → Int → List (S98) → Option (Int × (List (S201)) × (List (S202)) × (List (S98)) × (List (S204)))
  | 0, _, _, _, _, _, _, _, _ => none
  | k + 1, x4, x194000, x194001, x194002, x194003, x194004, x196000, x196003 => if x4 < (x194002.length : Int) then (if 0 ≤ x4 then (if ((rd_T94 x194002 x4).f1) ≥ 0 then (if ((rd_T94 x194002 x4).f1) < (x194000.length : Int) then (if 0 ≤ ((rd_T94 x194002 x4).f1) then (proofmarkref30_Bits.j1 k x4 ((rd_T94 x194002 x4).f1) 0 (decide (((rd_T96 x194000 ((rd_T94 x194002 x4).f1)).f1) ≤ 16)) x194000 x194001 x194002 x194003 x194004 x196000 x196003) else (none)) else (proofmarkref30_Bits.j1 k x4 ((rd_T94 x194002 x4).f1) 0 false x194000 x194001 x194002 x194003 x194004 x196000 x196003)) else (proofmarkref30_Bits.j1 k x4 ((rd_T94 x194002 x4).f1) 0 false x194000 x194001 x194002 x194003 x194004 x196000 x196003)) else (none)) else (some (x196000, ([] : List (S201)), ([] : List (S202)), x196003, ([] : List (S204))))
def proofmarkref30_Bits.j1 : Nat → Int → Int → Int → Bool → List (S96) → List (S111) → List (S94) → List (S73) → List (S111) → Int → List (S98) → Option (Int × (List (S201)) × (List (S202)) × (List (S98)) × (List (S204)))
  | 0, _, _, _, _, _, _, _, _, _, _, _ => none
  | k + 1, x4, x5, x6, x39, x194000, x194001, x194002, x194003, x194004, x196000, x196003 => if x39 = true then (if 0 ≤ x5 then (if x5 < (x194000.length : Int) then (proofmarkref30_Bits.j2 k x4 ((rd_T96 x194000 x5).f1) x194000 x194001 x194002 x194003 x194004 x196000 x196003) else (none)) else (none)) else (proofmarkref30_Bits.j2 k x4 x6 x194000 x194001 x194002 x194003 x194004 x196000 x196003)
def proofmarkref30_Bits.j2 : Nat → Int → Int → List (S96) → List (S111) → List (S94) → List (S73) → List (S111) → Int → List (S98) → Option (Int × (List (S201)) × (List (S202)) × (List (S98)) × (List (S204)))
  | 0, _, _, _, _, _, _, _, _, _ => none
  | k + 1, x4, x6, x194000, x194001, x194002, x194003, x194004, x196000, x196003 => proofmarkref30_Bits.l1 k x4 x6 0 x194000 x194001 x194002 x194003 x194004 x196000 x196003
def proofmarkref30_Bits.l1 : Nat → Int → Int → Int → List (S96) → List (S111) → List (S94) → List (S73) → List (S111) → Int → List (S98) → Option (Int × (List (S201)) × (List (S202)) × (List (S98)) × (List (S204)))
  | 0, _, _, _, _, _, _, _, _, _, _ => none
  | k + 1, x4, x6, x7, x194000, x194001, x194002, x194003, x194004, x196000, x196003 => if x7 < x6 then (if x196003.length < 3518437208883 then (proofmarkref30_Bits.l1 k x4 x6 (wrap64 (x7 + 1)) x194000 x194001 x194002 x194003 x194004 x196000 (x196003 ++ [(⟨0, 0, false, x4, x7⟩ : S98)])) else (none)) else (proofmarkref30_Bits.l0 k (wrap64 (x4 + 1)) x194000 x194001 x194002 x194003 x194004 x196000 x196003)
end
def proofmarkref30_Bits.f (k : Nat) (l0_0 : List (S96)) (l0_1 : List (S111)) (l0_2 : List (S94)) (l0_3 : List (S73)) (l0_4 : List (S111)) : Option (Int × (List (S201)) × (List (S202)) × (List (S98)) × (List (S204))) := proofmarkref30_Bits.l0 k 0 l0_0 l0_1 l0_2 l0_3 l0_4 0 ([] : List (S98))
theorem proofmarkref30_Bits.mono_l : ∀ k, (∀ y0 y1 y2 y3 y4 y5 y6 y7, LeO (proofmarkref30_Bits.l0 k y0 y1 y2 y3 y4 y5 y6 y7) (proofmarkref30_Bits.l0 (k + 1) y0 y1 y2 y3 y4 y5 y6 y7)) ∧ (∀ y0 y1 y2 y3 y4 y5 y6 y7 y8 y9 y10, LeO (proofmarkref30_Bits.j1 k y0 y1 y2 y3 y4 y5 y6 y7 y8 y9 y10) (proofmarkref30_Bits.j1 (k + 1) y0 y1 y2 y3 y4 y5 y6 y7 y8 y9 y10)) ∧ (∀ y0 y1 y2 y3 y4 y5 y6 y7 y8, LeO (proofmarkref30_Bits.j2 k y0 y1 y2 y3 y4 y5 y6 y7 y8) (proofmarkref30_Bits.j2 (k + 1) y0 y1 y2 y3 y4 y5 y6 y7 y8)) ∧ (∀ y0 y1 y2 y3 y4 y5 y6 y7 y8 y9, LeO (proofmarkref30_Bits.l1 k y0 y1 y2 y3 y4 y5 y6 y7 y8 y9) (proofmarkref30_Bits.l1 (k + 1) y0 y1 y2 y3 y4 y5 y6 y7 y8 y9))
  | 0 => ⟨fun _ _ _ _ _ _ _ _ r h => by simp [proofmarkref30_Bits.l0] at h, fun _ _ _ _ _ _ _ _ _ _ _ r h => by simp [proofmarkref30_Bits.j1] at h, fun _ _ _ _ _ _ _ _ _ r h => by simp [proofmarkref30_Bits.j2] at h, fun _ _ _ _ _ _ _ _ _ _ r h => by simp [proofmarkref30_Bits.l1] at h⟩
  | k + 1 => by
    obtain ⟨ih0, ih1, ih2, ih3⟩ := proofmarkref30_Bits.mono_l k
    refine ⟨?_, ?_, ?_, ?_⟩
    · intro y0 y1 y2 y3 y4 y5 y6 y7
      unfold proofmarkref30_Bits.l0
      repeat' first
      | (with_reducible exact ih0 _ _ _ _ _ _ _ _)
      | (with_reducible exact ih1 _ _ _ _ _ _ _ _ _ _ _)
      | (with_reducible exact ih2 _ _ _ _ _ _ _ _ _)
      | (with_reducible exact ih3 _ _ _ _ _ _ _ _ _ _)
      | (with_reducible exact LeO.refl _)
      | (with_reducible exact LeO.none _)
      | (with_reducible refine LeO.ite ?_ ?_)
      | (with_reducible refine LeO.bind ?_ (fun _ => ?_))
      | exact ih0 _ _ _ _ _ _ _ _
      | exact ih1 _ _ _ _ _ _ _ _ _ _ _
      | exact ih2 _ _ _ _ _ _ _ _ _
      | exact ih3 _ _ _ _ _ _ _ _ _ _
      | exact LeO.none _
      | refine LeO.ite ?_ ?_
      | refine LeO.bind ?_ (fun _ => ?_)
    · intro y0 y1 y2 y3 y4 y5 y6 y7 y8 y9 y10
      unfold proofmarkref30_Bits.j1
      repeat' first
      | (with_reducible exact ih0 _ _ _ _ _ _ _ _)
      | (with_reducible exact ih1 _ _ _ _ _ _ _ _ _ _ _)
      | (with_reducible exact ih2 _ _ _ _ _ _ _ _ _)
      | (with_reducible exact ih3 _ _ _ _ _ _ _ _ _ _)
      | (with_reducible exact LeO.refl _)
      | (with_reducible exact LeO.none _)
      | (with_reducible refine LeO.ite ?_ ?_)
      | (with_reducible refine LeO.bind ?_ (fun _ => ?_))
      | exact ih0 _ _ _ _ _ _ _ _
      | exact ih1 _ _ _ _ _ _ _ _ _ _ _
      | exact ih2 _ _ _ _ _ _ _ _ _
      | exact ih3 _ _ _ _ _ _ _ _ _ _
      | exact LeO.none _
      | refine LeO.ite ?_ ?_
      | refine LeO.bind ?_ (fun _ => ?_)
    · intro y0 y1 y2 y3 y4 y5 y6 y7 y8
      unfold proofmarkref30_Bits.j2
      repeat' first
      | (with_reducible exact ih0 _ _ _ _ _ _ _ _)
      | (with_reducible exact ih1 _ _ _ _ _ _ _ _ _ _ _)
      | (with_reducible exact ih2 _ _ _ _ _ _ _ _ _)
      | (with_reducible exact ih3 _ _ _ _ _ _ _ _ _ _)
      | (with_reducible exact LeO.refl _)
      | (with_reducible exact LeO.none _)
      | (with_reducible refine LeO.ite ?_ ?_)
      | (with_reducible refine LeO.bind ?_ (fun _ => ?_))
      | exact ih0 _ _ _ _ _ _ _ _
      | exact ih1 _ _ _ _ _ _ _ _ _ _ _
      | exact ih2 _ _ _ _ _ _ _ _ _
      | exact ih3 _ _ _ _ _ _ _ _ _ _
      | exact LeO.none _
      | refine LeO.ite ?_ ?_
      | refine LeO.bind ?_ (fun _ => ?_)
    · intro y0 y1 y2 y3 y4 y5 y6 y7 y8 y9
      unfold proofmarkref30_Bits.l1
      repeat' first
      | (with_reducible exact ih0 _ _ _ _ _ _ _ _)
      | (with_reducible exact ih1 _ _ _ _ _ _ _ _ _ _ _)
      | (with_reducible exact ih2 _ _ _ _ _ _ _ _ _)
      | (with_reducible exact ih3 _ _ _ _ _ _ _ _ _ _)
      | (with_reducible exact LeO.refl _)
      | (with_reducible exact LeO.none _)
      | (with_reducible refine LeO.ite ?_ ?_)
      | (with_reducible refine LeO.bind ?_ (fun _ => ?_))
      | exact ih0 _ _ _ _ _ _ _ _
      | exact ih1 _ _ _ _ _ _ _ _ _ _ _
      | exact ih2 _ _ _ _ _ _ _ _ _
      | exact ih3 _ _ _ _ _ _ _ _ _ _
      | exact LeO.none _
      | refine LeO.ite ?_ ?_
      | refine LeO.bind ?_ (fun _ => ?_)
theorem proofmarkref30_Bits.mono : ∀ a0 a1 a2 a3 a4 k, LeO (proofmarkref30_Bits.f k a0 a1 a2 a3 a4) (proofmarkref30_Bits.f (k + 1) a0 a1 a2 a3 a4) := by
  intro a0 a1 a2 a3 a4 k
  obtain ⟨ih0, ih1, ih2, ih3⟩ := proofmarkref30_Bits.mono_l k
  unfold proofmarkref30_Bits.f
  repeat' first
      | (with_reducible exact ih0 _ _ _ _ _ _ _ _)
      | (with_reducible exact ih1 _ _ _ _ _ _ _ _ _ _ _)
      | (with_reducible exact ih2 _ _ _ _ _ _ _ _ _)
      | (with_reducible exact ih3 _ _ _ _ _ _ _ _ _ _)
      | (with_reducible exact LeO.refl _)
      | (with_reducible exact LeO.none _)
      | (with_reducible refine LeO.ite ?_ ?_)
      | (with_reducible refine LeO.bind ?_ (fun _ => ?_))
      | exact ih0 _ _ _ _ _ _ _ _
      | exact ih1 _ _ _ _ _ _ _ _ _ _ _
      | exact ih2 _ _ _ _ _ _ _ _ _
      | exact ih3 _ _ _ _ _ _ _ _ _ _
      | exact LeO.none _
      | refine LeO.ite ?_ ?_
      | refine LeO.bind ?_ (fun _ => ?_)
set_option maxHeartbeats 8000000 in
set_option maxRecDepth 100000 in
theorem proofmarkref30_Bits.calls (k : Nat) (A0_0 : Option Addr) (c0_0 : Nat) (l0_0 : List (S96)) (A0_1 : Option Addr) (c0_1 : Nat) (l0_1 : List (S111)) (A0_2 : Option Addr) (c0_2 : Nat) (l0_2 : List (S94)) (A0_3 : Option Addr) (c0_3 : Nat) (l0_3 : List (S73)) (A0_4 : Option Addr) (c0_4 : Nat) (l0_4 : List (S111)) (r1 : Int) (r2 : List (S201)) (r3 : List (S202)) (r4 : List (S98)) (r5 : List (S204)) (w : World) (hr0_0 : Kd.C k96 w A0_0 l0_0.length l0_0) (hc0_0 : l0_0.length ≤ c0_0) (hr0_1 : Kd.C k111 w A0_1 l0_1.length l0_1) (hc0_1 : l0_1.length ≤ c0_1) (hr0_2 : Kd.C k94 w A0_2 l0_2.length l0_2) (hc0_2 : l0_2.length ≤ c0_2) (hr0_3 : Kd.C k73 w A0_3 l0_3.length l0_3) (hc0_3 : l0_3.length ≤ c0_3) (hr0_4 : Kd.C k111 w A0_4 l0_4.length l0_4) (hc0_4 : l0_4.length ≤ c0_4) (h : proofmarkref30_Bits.f k l0_0 l0_1 l0_2 l0_3 l0_4 = some (r1, r2, r3, r4, r5)) :
    Calls Tryd.prog 22 #[.agg #[.slice A0_0 l0_0.length c0_0, .slice A0_1 l0_1.length c0_1, .slice A0_2 l0_2.length c0_2, .slice A0_3 l0_3.length c0_3, .slice A0_4 l0_4.length c0_4]] w fun e w' => ∃ v1_ v2_ v3_ v4_ : Value, e = .returned (.agg #[.int .i64 r1, v1_, v2_, v3_, v4_]) ∧ Kd.R k201 201 w' w.heap.size (fun _ => True) v1_ r2 ∧ Kd.R k202 202 w' w.heap.size (fun _ => True) v2_ r3 ∧ Kd.R k98 98 w' w.heap.size (fun _ => True) v3_ r4 ∧ Kd.R k204 204 w' w.heap.size (fun _ => True) v4_ r5 ∧ Below w.heap.size w w' := by
  have hu27 := Tryd.underlying27
  have hu53 := Tryd.underlying53
  have hu98 := Tryd.underlying98
  have HR0_0 := Aside0.mk hr0_0
  have HC0_0 := Aside0.mk hc0_0
  clear hr0_0 hc0_0
  have HR0_1 := Aside0.mk hr0_1
  have HC0_1 := Aside0.mk hc0_1
  clear hr0_1 hc0_1
  have HR0_2 := Aside0.mk hr0_2
  have HC0_2 := Aside0.mk hc0_2
  clear hr0_2 hc0_2
  have HR0_3 := Aside0.mk hr0_3
  have HC0_3 := Aside0.mk hc0_3
  clear hr0_3 hc0_3
  have HR0_4 := Aside0.mk hr0_4
  have HC0_4 := Aside0.mk hc0_4
  clear hr0_4 hc0_4
  have HB := Aside0.mk (Below.refl w.heap.size w)
  have H : (proofmarkref30_Bits.l0 k 0 l0_0 l0_1 l0_2 l0_3 l0_4 0 ([] : List (S98))) = some (r1, r2, r3, r4, r5) := h
  clear h
  have H' := Aside0.mk H
  clear H
  go_enter Tryd.func22, Tryd.ntmps22
  go_wp2_with (first | ((with_reducible refine gate_dst (N := 1) rfl ?_); (try (refine gate_guard (by rfl) ?_; dsimp only)); refine box_event ?hg (N := 1) ?hd (cs := #[.slice A0_0 l0_0.length c0_0, .slice A0_1 l0_1.length c0_1, .slice A0_2 l0_2.length c0_2, .slice A0_3 l0_3.length c0_3, .slice A0_4 l0_4.length c0_4]) (t := 27) ?hr ?_; (case hd => rfl); (case hg => rfl); (case hr => first | (go_simp; done)); intro gb193 hg w2 hbox hb; have n0_ := Aside0.mk (below_step HB.out hb); have n1_ := Aside0.mk (hbox); have n2_ := Aside0.mk ((by rw [hg]; exact (below_size HB.out) : w.heap.size ≤ gb193)); have n3_ := Aside0.mk ((by rw [hg]; exact (below_size HB.out) : w.heap.size ≤ gb193)); clear HB; have HB := n0_; have BK193 := n1_; have GW193 := n2_; have GE193 := n3_; clear n0_ n1_ n2_ n3_; clear hb hbox hg) | ((with_reducible refine gate_dst (N := 2) rfl ?_); (try (refine gate_guard (by rfl) ?_; dsimp only)); refine box_event ?hg (N := 2) ?hd (cs := #[.int .i64 0, .slice none 0 0, .slice none 0 0, .slice none 0 0, .slice none 0 0]) (t := 53) ?hr ?_; (case hd => rfl); (case hg => rfl); (case hr => first | (go_simp; done)); intro gb194 hg w3 hbox hb; have n0_ := Aside0.mk (blk_below BK193.out hb); have n1_ := Aside0.mk (below_step HB.out hb); have n2_ := Aside0.mk (hbox); have n3_ := Aside0.mk ((by rw [hg]; exact (below_size HB.out) : w.heap.size ≤ gb194)); have n4_ := Aside0.mk ((by rw [hg]; exact (below_size HB.out) : w.heap.size ≤ gb194)); have n5_ := Aside0.mk ((by rw [hg]; exact Nat.ne_of_lt (blk_lt BK193.out) : gb193 ≠ gb194)); have n6_ := Aside0.mk ((by rw [hg]; exact Nat.ne_of_gt (blk_lt BK193.out) : gb194 ≠ gb193)); clear BK193; clear HB; have BK193 := n0_; have HB := n1_; have BK194 := n2_; have GW194 := n3_; have GE194 := n4_; have NB193_194 := n5_; have NB194_193 := n6_; clear n0_ n1_ n2_ n3_ n4_ n5_ n6_; clear hb hbox hg) | ((with_reducible refine gate_dst (N := 3) rfl ?_); (try (refine gate_guard (by rfl) ?_; dsimp only)); refine box_event ?hg (N := 3) ?hd (cs := #[.int .i64 0, .slice none 0 0, .slice none 0 0, .slice none 0 0, .slice none 0 0]) (t := 53) ?hr ?_; (case hd => rfl); (case hg => rfl); (case hr => first | (go_simp; done)); intro gb195 hg w4 hbox hb; have n0_ := Aside0.mk (blk_below BK193.out hb); have n1_ := Aside0.mk (blk_below BK194.out hb); have n2_ := Aside0.mk (below_step HB.out hb); have n3_ := Aside0.mk (hbox); have n4_ := Aside0.mk ((by rw [hg]; exact (below_size HB.out) : w.heap.size ≤ gb195)); have n5_ := Aside0.mk ((by rw [hg]; exact (below_size HB.out) : w.heap.size ≤ gb195)); have n6_ := Aside0.mk ((by rw [hg]; exact Nat.ne_of_lt (blk_lt BK193.out) : gb193 ≠ gb195)); have n7_ := Aside0.mk ((by rw [hg]; exact Nat.ne_of_gt (blk_lt BK193.out) : gb195 ≠ gb193)); have n8_ := Aside0.mk ((by rw [hg]; exact Nat.ne_of_lt (blk_lt BK194.out) : gb194 ≠ gb195)); have n9_ := Aside0.mk ((by rw [hg]; exact Nat.ne_of_gt (blk_lt BK194.out) : gb195 ≠ gb194)); clear BK193; clear BK194; clear HB; have BK193 := n0_; have BK194 := n1_; have HB := n2_; have BK195 := n3_; have GW195 := n4_; have GE195 := n5_; have NB193_195 := n6_; have NB195_193 := n7_; have NB194_195 := n8_; have NB195_194 := n9_; clear n0_ n1_ n2_ n3_ n4_ n5_ n6_ n7_ n8_ n9_; clear hb hbox hg; have hnb5 := NB195_193.out; have hnc5 := NB193_195.out; have hnb6 := NB195_194.out; have hnc6 := NB194_195.out; have hcz7_0 : w4.cell? ⟨gb195, 0, none⟩ = some (.int .i64 0) := (blk_cell BK195.out 0).trans rfl; have hcz7_1 : w4.cell? ⟨gb195, 1, none⟩ = some (.slice none 0 0) := (blk_cell BK195.out 1).trans rfl; have hcz7_2 : w4.cell? ⟨gb195, 2, none⟩ = some (.slice none 0 0) := (blk_cell BK195.out 2).trans rfl; have hcz7_3 : w4.cell? ⟨gb195, 3, none⟩ = some (.slice none 0 0) := (blk_cell BK195.out 3).trans rfl; have hcz7_4 : w4.cell? ⟨gb195, 4, none⟩ = some (.slice none 0 0) := (blk_cell BK195.out 4).trans rfl; have hfz7_0 := blk_frozen BK195.out 0; have hfz7_1 := blk_frozen BK195.out 1; have hfz7_2 := blk_frozen BK195.out 2; have hfz7_3 := blk_frozen BK195.out 3; have hfz7_4 := blk_frozen BK195.out 4))
  try simp only [Act.put, List.setIfInBounds_toArray, List.set_cons_succ, List.set_cons_zero]
  go_loopg [4] k (fun kq v4 w' => ∃ (x4_1 : Int) (x196003_1 : List (S98)) (u196003 : Value), v4 = .int .i64 x4_1 ∧ Aside0 (proofmarkref30_Bits.l0 kq x4_1 l0_0 l0_1 l0_2 l0_3 l0_4 0 x196003_1 = some (r1, r2, r3, r4, r5)) ∧ Aside0 (kq ≤ k) ∧ Aside0 (Kd.R k98 98 w' w.heap.size (fun _ => True) u196003 x196003_1) ∧ Aside0 (w'.heap[gb193]? = some (.cells #[(.slice A0_0 l0_0.length c0_0), (.slice A0_1 l0_1.length c0_1), (.slice A0_2 l0_2.length c0_2), (.slice A0_3 l0_3.length c0_3), (.slice A0_4 l0_4.length c0_4)] 27 (0, 0))) ∧ Aside0 (w'.heap[gb194]? = some (.cells #[.int .i64 0, (.slice none 0 0), (.slice none 0 0), (.slice none 0 0), (.slice none 0 0)] 53 (0, 0))) ∧ Aside0 (w'.heap[gb195]? = some (.cells #[.int .i64 0, (.slice none 0 0), (.slice none 0 0), u196003, (.slice none 0 0)] 53 (0, 0))) ∧ Aside0 (Below w.heap.size w w'))
  case atStart => exact ⟨(0), (([] : List (S98))), (.slice none 0 0), rfl, H', ⟨Nat.le_refl _⟩, ⟨by first | exact Kd.R_nil _ _ _ _ _⟩, ⟨by refine blk_far ?_ NB193_195.out _; refine blk_far ?_ NB193_195.out _; refine blk_far ?_ NB193_195.out _; refine blk_far ?_ NB193_195.out _; refine blk_far ?_ NB193_195.out _; exact BK193.out⟩, ⟨by refine blk_far ?_ NB194_195.out _; refine blk_far ?_ NB194_195.out _; refine blk_far ?_ NB194_195.out _; refine blk_far ?_ NB194_195.out _; refine blk_far ?_ NB194_195.out _; exact BK194.out⟩, ⟨by refine blk_put (cs := #[.int .i64 0, .slice none 0 0, .slice none 0 0, .slice none 0 0, .slice none 0 0]) ?_ 4 _ rfl; refine blk_put (cs := #[.int .i64 0, .slice none 0 0, .slice none 0 0, .slice none 0 0, .slice none 0 0]) ?_ 3 _ rfl; refine blk_put (cs := #[.int .i64 0, .slice none 0 0, .slice none 0 0, .slice none 0 0, .slice none 0 0]) ?_ 2 _ rfl; refine blk_put (cs := #[.int .i64 0, .slice none 0 0, .slice none 0 0, .slice none 0 0, .slice none 0 0]) ?_ 1 _ rfl; refine blk_put (cs := #[.int .i64 0, .slice none 0 0, .slice none 0 0, .slice none 0 0, .slice none 0 0]) ?_ 0 _ rfl; exact BK195.out⟩, ⟨by repeat (first | (with_reducible first | exact HB.out | refine below_set ?_ GE195.out))⟩⟩
  case round =>
    clear H'
    try clear c2
    try clear p2
    try clear c5
    try clear c6
    try clear hcz7_0
    try clear hcz7_1
    try clear hcz7_2
    try clear hcz7_3
    try clear hcz7_4
    try clear hfz7_0
    try clear hfz7_1
    try clear hfz7_2
    try clear hfz7_3
    try clear hfz7_4
    obtain ⟨x4_1, x196003_1, u196003, rfl, HA, HK1, HO_196003, BK193, BK194, BK195, HB⟩ := hrel
    cases gk with
    | zero => exact absurd HA.out (by simp [proofmarkref30_Bits.l0])
    | succ k1 =>
      have H := HA.out
      clear HA
      simp only [proofmarkref30_Bits.l0] at H
      by_cases c8 : x4_1 < (l0_2.length : Int)
      · rw [if_pos c8] at H
        have c8b0 : decide (x4_1 < (l0_2.length : Int)) = true := decide_eq_true c8
        clear c8
        by_cases c9 : 0 ≤ x4_1
        · rw [if_pos c9] at H
          have c9b0 : decide (0 ≤ x4_1) = true := decide_eq_true c9
          clear c9
          have HC10 := Aside0.mk H
          clear H
          have hnb11 := NB193_194.out
          have hnc11 := NB194_193.out
          have hnb12 := NB193_195.out
          have hnc12 := NB195_193.out
          have hcz13_0 : wr.cell? ⟨gb193, 0, none⟩ = some (.slice A0_0 l0_0.length c0_0) := (blk_cell BK193.out 0).trans rfl
          have hcz13_1 : wr.cell? ⟨gb193, 1, none⟩ = some (.slice A0_1 l0_1.length c0_1) := (blk_cell BK193.out 1).trans rfl
          have hcz13_2 : wr.cell? ⟨gb193, 2, none⟩ = some (.slice A0_2 l0_2.length c0_2) := (blk_cell BK193.out 2).trans rfl
          have hcz13_3 : wr.cell? ⟨gb193, 3, none⟩ = some (.slice A0_3 l0_3.length c0_3) := (blk_cell BK193.out 3).trans rfl
          have hcz13_4 : wr.cell? ⟨gb193, 4, none⟩ = some (.slice A0_4 l0_4.length c0_4) := (blk_cell BK193.out 4).trans rfl
          have hfz13_0 := blk_frozen BK193.out 0
          have hfz13_1 := blk_frozen BK193.out 1
          have hfz13_2 := blk_frozen BK193.out 2
          have hfz13_3 := blk_frozen BK193.out 3
          have hfz13_4 := blk_frozen BK193.out 4
          have p196 : 0 ≤ (x4_1 : Int) := of_decide_eq_true (by first | (with_reducible assumption))
          have q196 : x4_1 < (l0_2.length : Int) := of_decide_eq_true (by first | (with_reducible assumption))
          obtain ⟨ad196, e196, hx196_0, hx196_1, hx196_2, hx196_3⟩ := at_T94 HR0_2.out x4_1 p196 q196
          cases e196
          replace hx196_0 := (HB.out.cell (World.block_lt_of_cell? w _ hx196_0)).trans hx196_0
          replace hx196_1 := (HB.out.cell (World.block_lt_of_cell? w _ hx196_1)).trans hx196_1
          replace hx196_2 := (HB.out.cell (World.block_lt_of_cell? w _ hx196_2)).trans hx196_2
          replace hx196_3 := (HB.out.cell (World.block_lt_of_cell? w _ hx196_3)).trans hx196_3
          replace p196 := eq_true p196
          replace q196 := eq_true q196
          go_upto_region 7 with (fail)
          go_cut [39] (fun v39 wc => ∃ (kq : Nat) (x39_9 : Bool), v39 = .bool x39_9 ∧ Aside0 (proofmarkref30_Bits.j1 kq x4_1 ((rd_T94 l0_2 x4_1).f1) 0 x39_9 l0_0 l0_1 l0_2 l0_3 l0_4 0 x196003_1 = some (r1, r2, r3, r4, r5)) ∧ Aside0 (kq ≤ k1) ∧ Aside0 (Kd.R k98 98 wc w.heap.size (fun _ => True) u196003 x196003_1) ∧ Aside0 (wc.heap[gb193]? = some (.cells #[(.slice A0_0 l0_0.length c0_0), (.slice A0_1 l0_1.length c0_1), (.slice (some ad196) l0_2.length c0_2), (.slice A0_3 l0_3.length c0_3), (.slice A0_4 l0_4.length c0_4)] 27 (0, 0))) ∧ Aside0 (wc.heap[gb194]? = some (.cells #[.int .i64 0, (.slice none 0 0), (.slice none 0 0), (.slice none 0 0), (.slice none 0 0)] 53 (0, 0))) ∧ Aside0 (wc.heap[gb195]? = some (.cells #[.int .i64 0, (.slice none 0 0), (.slice none 0 0), u196003, (.slice none 0 0)] 53 (0, 0))) ∧ Aside0 (Below w.heap.size w wc))
          case first =>
            have H := HC10.out
            clear HC10
            by_cases c14 : ((rd_T94 l0_2 x4_1).f1) ≥ 0
            · rw [if_pos c14] at H
              have c14b0 : decide (0 ≤ ((rd_T94 l0_2 x4_1).f1)) = true := decide_eq_true c14
              clear c14
              (first | skip)
              by_cases c15 : ((rd_T94 l0_2 x4_1).f1) < (l0_0.length : Int)
              · rw [if_pos c15] at H
                have c15b0 : decide (((rd_T94 l0_2 x4_1).f1) < (l0_0.length : Int)) = true := decide_eq_true c15
                clear c15
                by_cases c16 : 0 ≤ ((rd_T94 l0_2 x4_1).f1)
                · rw [if_pos c16] at H
                  have c16b0 : decide (0 ≤ ((rd_T94 l0_2 x4_1).f1)) = true := decide_eq_true c16
                  clear c16
                  have H' := Aside0.mk H
                  clear H
                  have hnb17 := NB193_194.out
                  have hnc17 := NB194_193.out
                  have hnb18 := NB193_195.out
                  have hnc18 := NB195_193.out
                  have hcz19_0 : wr.cell? ⟨gb193, 0, none⟩ = some (.slice A0_0 l0_0.length c0_0) := (blk_cell BK193.out 0).trans rfl
                  have hcz19_1 : wr.cell? ⟨gb193, 1, none⟩ = some (.slice A0_1 l0_1.length c0_1) := (blk_cell BK193.out 1).trans rfl
                  have hcz19_2 : wr.cell? ⟨gb193, 2, none⟩ = some (.slice (some ad196) l0_2.length c0_2) := (blk_cell BK193.out 2).trans rfl
                  have hcz19_3 : wr.cell? ⟨gb193, 3, none⟩ = some (.slice A0_3 l0_3.length c0_3) := (blk_cell BK193.out 3).trans rfl
                  have hcz19_4 : wr.cell? ⟨gb193, 4, none⟩ = some (.slice A0_4 l0_4.length c0_4) := (blk_cell BK193.out 4).trans rfl
                  have hfz19_0 := blk_frozen BK193.out 0
                  have hfz19_1 := blk_frozen BK193.out 1
                  have hfz19_2 := blk_frozen BK193.out 2
                  have hfz19_3 := blk_frozen BK193.out 3
                  have hfz19_4 := blk_frozen BK193.out 4
                  have p197 : 0 ≤ (((rd_T94 l0_2 x4_1).f1) : Int) := of_decide_eq_true (by first | (with_reducible assumption))
                  have q197 : ((rd_T94 l0_2 x4_1).f1) < (l0_0.length : Int) := of_decide_eq_true (by first | (with_reducible assumption))
                  obtain ⟨ad197, e197, hx197_0, hx197_1, hx197_2, hx197_3, hx197_4, hx197_5, hx197_6⟩ := at_T96 HR0_0.out ((rd_T94 l0_2 x4_1).f1) p197 q197
                  cases e197
                  replace hx197_0 := (HB.out.cell (World.block_lt_of_cell? w _ hx197_0)).trans hx197_0
                  replace hx197_1 := (HB.out.cell (World.block_lt_of_cell? w _ hx197_1)).trans hx197_1
                  replace hx197_2 := (HB.out.cell (World.block_lt_of_cell? w _ hx197_2)).trans hx197_2
                  replace hx197_3 := (HB.out.cell (World.block_lt_of_cell? w _ hx197_3)).trans hx197_3
                  replace hx197_4 := (HB.out.cell (World.block_lt_of_cell? w _ hx197_4)).trans hx197_4
                  replace hx197_5 := (HB.out.cell (World.block_lt_of_cell? w _ hx197_5)).trans hx197_5
                  replace hx197_6 := (HB.out.cell (World.block_lt_of_cell? w _ hx197_6)).trans hx197_6
                  replace p197 := eq_true p197
                  replace q197 := eq_true q197
                  go_wp2
                  go_meet
                  case rel => exact ⟨_, (decide (((rd_T96 l0_0 ((rd_T94 l0_2 x4_1).f1)).f1) ≤ 16)), rfl, H', ⟨by have := HK1.out; first | omega⟩, ⟨by exact HO_196003.out⟩, ⟨by exact BK193.out⟩, ⟨by exact BK194.out⟩, ⟨by exact BK195.out⟩, ⟨by exact HB.out⟩⟩
                · rw [if_neg c16] at H
                  exact absurd H (by simp)
              · rw [if_neg c15] at H
                have c15b0 : decide (((rd_T94 l0_2 x4_1).f1) < (l0_0.length : Int)) = false := decide_eq_false c15
                clear c15
                have H' := Aside0.mk H
                clear H
                have hnb20 := NB193_194.out
                have hnc20 := NB194_193.out
                have hnb21 := NB193_195.out
                have hnc21 := NB195_193.out
                have hcz22_0 : wr.cell? ⟨gb193, 0, none⟩ = some (.slice A0_0 l0_0.length c0_0) := (blk_cell BK193.out 0).trans rfl
                have hcz22_1 : wr.cell? ⟨gb193, 1, none⟩ = some (.slice A0_1 l0_1.length c0_1) := (blk_cell BK193.out 1).trans rfl
                have hcz22_2 : wr.cell? ⟨gb193, 2, none⟩ = some (.slice (some ad196) l0_2.length c0_2) := (blk_cell BK193.out 2).trans rfl
                have hcz22_3 : wr.cell? ⟨gb193, 3, none⟩ = some (.slice A0_3 l0_3.length c0_3) := (blk_cell BK193.out 3).trans rfl
                have hcz22_4 : wr.cell? ⟨gb193, 4, none⟩ = some (.slice A0_4 l0_4.length c0_4) := (blk_cell BK193.out 4).trans rfl
                have hfz22_0 := blk_frozen BK193.out 0
                have hfz22_1 := blk_frozen BK193.out 1
                have hfz22_2 := blk_frozen BK193.out 2
                have hfz22_3 := blk_frozen BK193.out 3
                have hfz22_4 := blk_frozen BK193.out 4
                go_wp2
                go_meet
                case rel => exact ⟨_, (false), rfl, H', ⟨by have := HK1.out; first | omega⟩, ⟨by exact HO_196003.out⟩, ⟨by exact BK193.out⟩, ⟨by exact BK194.out⟩, ⟨by exact BK195.out⟩, ⟨by exact HB.out⟩⟩
            · rw [if_neg c14] at H
              have c14b0 : decide (0 ≤ ((rd_T94 l0_2 x4_1).f1)) = false := decide_eq_false c14
              clear c14
              (first | skip)
              have H' := Aside0.mk H
              clear H
              go_wp2
              go_meet
              case rel => exact ⟨_, (false), rfl, H', ⟨by have := HK1.out; first | omega⟩, ⟨by exact HO_196003.out⟩, ⟨by exact BK193.out⟩, ⟨by exact BK194.out⟩, ⟨by exact BK195.out⟩, ⟨by exact HB.out⟩⟩
          case rest =>
            clear HC10
            try clear c1
            try clear p1
            try clear q1
            try clear hx1
            try clear c2
            try clear p2
            try clear c5
            try clear c6
            try clear c8
            try clear c8b0
            try clear c9
            try clear c9b0
            try clear c11
            try clear c12
            try clear c14
            try clear c14b0
            try clear c15
            try clear c15b0
            try clear c16
            try clear c16b0
            try clear c17
            try clear c18
            try clear p19
            try clear q19
            try clear hx19
            try clear c20
            try clear c21
            try clear c22
            try clear hcz13_0
            try clear hcz13_1
            try clear hcz13_2
            try clear hcz13_3
            try clear hcz13_4
            try clear hcz19_0
            try clear hcz19_1
            try clear hcz19_2
            try clear hcz19_3
            try clear hcz19_4
            try clear hcz22_0
            try clear hcz22_1
            try clear hcz22_2
            try clear hcz22_3
            try clear hcz22_4
            try clear hcz7_0
            try clear hcz7_1
            try clear hcz7_2
            try clear hcz7_3
            try clear hcz7_4
            try clear hfz13_0
            try clear hfz13_1
            try clear hfz13_2
            try clear hfz13_3
            try clear hfz13_4
            try clear hfz19_0
            try clear hfz19_1
            try clear hfz19_2
            try clear hfz19_3
            try clear hfz19_4
            try clear hfz22_0
            try clear hfz22_1
            try clear hfz22_2
            try clear hfz22_3
            try clear hfz22_4
            try clear hfz7_0
            try clear hfz7_1
            try clear hfz7_2
            try clear hfz7_3
            try clear hfz7_4
            try clear hx196_0
            try clear hx196_1
            try clear hx196_2
            try clear hx196_3
            try clear hx197_0
            try clear hx197_1
            try clear hx197_2
            try clear hx197_3
            try clear hx197_4
            try clear hx197_5
            try clear hx197_6
            try clear p196
            try clear p197
            try clear p2
            try clear q196
            try clear q197
            obtain ⟨kq, x39_9, rfl, HA, HJ9, HO_196003, BK193, BK194, BK195, HB⟩ := hcut
            cases kq with
            | zero => exact absurd HA.out (by simp [proofmarkref30_Bits.j1])
            | succ kj9 =>
              have H := HA.out
              clear HA
              simp only [proofmarkref30_Bits.j1] at H
              have HC23 := Aside0.mk H
              clear H
              go_upto_if 39 with (fail)
              go_cut [6] (fun v6 wc => ∃ (kq : Nat) (x6_22 : Int), v6 = .int .i64 x6_22 ∧ Aside0 (proofmarkref30_Bits.j2 kq x4_1 x6_22 l0_0 l0_1 l0_2 l0_3 l0_4 0 x196003_1 = some (r1, r2, r3, r4, r5)) ∧ Aside0 (kq ≤ kj9) ∧ Aside0 (Kd.R k98 98 wc w.heap.size (fun _ => True) u196003 x196003_1) ∧ Aside0 (wc.heap[gb193]? = some (.cells #[(.slice A0_0 l0_0.length c0_0), (.slice A0_1 l0_1.length c0_1), (.slice (some ad196) l0_2.length c0_2), (.slice A0_3 l0_3.length c0_3), (.slice A0_4 l0_4.length c0_4)] 27 (0, 0))) ∧ Aside0 (wc.heap[gb194]? = some (.cells #[.int .i64 0, (.slice none 0 0), (.slice none 0 0), (.slice none 0 0), (.slice none 0 0)] 53 (0, 0))) ∧ Aside0 (wc.heap[gb195]? = some (.cells #[.int .i64 0, (.slice none 0 0), (.slice none 0 0), u196003, (.slice none 0 0)] 53 (0, 0))) ∧ Aside0 (Below w.heap.size w wc))
              case first =>
                have H := HC23.out
                clear HC23
                by_cases c24 : x39_9 = true
                · subst c24
                  have H1 : (if 0 ≤ ((rd_T94 l0_2 x4_1).f1) then (if ((rd_T94 l0_2 x4_1).f1) < (l0_0.length : Int) then (proofmarkref30_Bits.j2 kj9 x4_1 ((rd_T96 l0_0 ((rd_T94 l0_2 x4_1).f1)).f1) l0_0 l0_1 l0_2 l0_3 l0_4 0 x196003_1) else (none)) else (none)) = some (r1, r2, r3, r4, r5) := by rw [if_pos rfl] at H; exact H
                  clear H
                  have H := H1
                  clear H1
                  by_cases c25 : 0 ≤ ((rd_T94 l0_2 x4_1).f1)
                  · rw [if_pos c25] at H
                    have c25b0 : decide (0 ≤ ((rd_T94 l0_2 x4_1).f1)) = true := decide_eq_true c25
                    clear c25
                    (first | skip)
                    by_cases c26 : ((rd_T94 l0_2 x4_1).f1) < (l0_0.length : Int)
                    · rw [if_pos c26] at H
                      have c26b0 : decide (((rd_T94 l0_2 x4_1).f1) < (l0_0.length : Int)) = true := decide_eq_true c26
                      clear c26
                      have H' := Aside0.mk H
                      clear H
                      have hnb27 := NB193_194.out
                      have hnc27 := NB194_193.out
                      have hnb28 := NB193_195.out
                      have hnc28 := NB195_193.out
                      have hcz29_0 : wc.cell? ⟨gb193, 0, none⟩ = some (.slice A0_0 l0_0.length c0_0) := (blk_cell BK193.out 0).trans rfl
                      have hcz29_1 : wc.cell? ⟨gb193, 1, none⟩ = some (.slice A0_1 l0_1.length c0_1) := (blk_cell BK193.out 1).trans rfl
                      have hcz29_2 : wc.cell? ⟨gb193, 2, none⟩ = some (.slice (some ad196) l0_2.length c0_2) := (blk_cell BK193.out 2).trans rfl
                      have hcz29_3 : wc.cell? ⟨gb193, 3, none⟩ = some (.slice A0_3 l0_3.length c0_3) := (blk_cell BK193.out 3).trans rfl
                      have hcz29_4 : wc.cell? ⟨gb193, 4, none⟩ = some (.slice A0_4 l0_4.length c0_4) := (blk_cell BK193.out 4).trans rfl
                      have hfz29_0 := blk_frozen BK193.out 0
                      have hfz29_1 := blk_frozen BK193.out 1
                      have hfz29_2 := blk_frozen BK193.out 2
                      have hfz29_3 := blk_frozen BK193.out 3
                      have hfz29_4 := blk_frozen BK193.out 4
                      have p198 : 0 ≤ (((rd_T94 l0_2 x4_1).f1) : Int) := of_decide_eq_true (by first | (with_reducible assumption))
                      have q198 : ((rd_T94 l0_2 x4_1).f1) < (l0_0.length : Int) := of_decide_eq_true (by first | (with_reducible assumption))
                      obtain ⟨ad198, e198, hx198_0, hx198_1, hx198_2, hx198_3, hx198_4, hx198_5, hx198_6⟩ := at_T96 HR0_0.out ((rd_T94 l0_2 x4_1).f1) p198 q198
                      cases e198
                      replace hx198_0 := (HB.out.cell (World.block_lt_of_cell? w _ hx198_0)).trans hx198_0
                      replace hx198_1 := (HB.out.cell (World.block_lt_of_cell? w _ hx198_1)).trans hx198_1
                      replace hx198_2 := (HB.out.cell (World.block_lt_of_cell? w _ hx198_2)).trans hx198_2
                      replace hx198_3 := (HB.out.cell (World.block_lt_of_cell? w _ hx198_3)).trans hx198_3
                      replace hx198_4 := (HB.out.cell (World.block_lt_of_cell? w _ hx198_4)).trans hx198_4
                      replace hx198_5 := (HB.out.cell (World.block_lt_of_cell? w _ hx198_5)).trans hx198_5
                      replace hx198_6 := (HB.out.cell (World.block_lt_of_cell? w _ hx198_6)).trans hx198_6
                      replace p198 := eq_true p198
                      replace q198 := eq_true q198
                      go_wp2
                      go_meet
                      case rel => exact ⟨_, ((rd_T96 l0_0 ((rd_T94 l0_2 x4_1).f1)).f1), rfl, H', ⟨by have := HK1.out; have := HJ9.out; first | omega⟩, ⟨by exact HO_196003.out⟩, ⟨by exact BK193.out⟩, ⟨by exact BK194.out⟩, ⟨by exact BK195.out⟩, ⟨by exact HB.out⟩⟩
                    · rw [if_neg c26] at H
                      exact absurd H (by simp)
                  · rw [if_neg c25] at H
                    exact absurd H (by simp)
                · replace c24 := Bool.eq_false_iff.mpr c24
                  subst c24
                  have H1 : (proofmarkref30_Bits.j2 kj9 x4_1 0 l0_0 l0_1 l0_2 l0_3 l0_4 0 x196003_1) = some (r1, r2, r3, r4, r5) := by rw [if_neg (show ¬ (false = true) by decide)] at H; exact H
                  clear H
                  have H := H1
                  clear H1
                  have H' := Aside0.mk H
                  clear H
                  go_wp2
                  go_meet
                  case rel => exact ⟨_, (0), rfl, H', ⟨by have := HK1.out; have := HJ9.out; first | omega⟩, ⟨by exact HO_196003.out⟩, ⟨by exact BK193.out⟩, ⟨by exact BK194.out⟩, ⟨by exact BK195.out⟩, ⟨by exact HB.out⟩⟩
              case rest =>
                clear HC23
                try clear c1
                try clear p1
                try clear q1
                try clear hx1
                try clear c2
                try clear p2
                try clear c5
                try clear c6
                try clear c8
                try clear c8b0
                try clear c9
                try clear c9b0
                try clear c11
                try clear c12
                try clear c14
                try clear c14b0
                try clear c15
                try clear c15b0
                try clear c16
                try clear c16b0
                try clear c17
                try clear c18
                try clear p19
                try clear q19
                try clear hx19
                try clear c20
                try clear c21
                try clear c22
                try clear c24
                try clear c25
                try clear c25b0
                try clear c26
                try clear c26b0
                try clear c27
                try clear c28
                try clear hcz13_0
                try clear hcz13_1
                try clear hcz13_2
                try clear hcz13_3
                try clear hcz13_4
                try clear hcz19_0
                try clear hcz19_1
                try clear hcz19_2
                try clear hcz19_3
                try clear hcz19_4
                try clear hcz22_0
                try clear hcz22_1
                try clear hcz22_2
                try clear hcz22_3
                try clear hcz22_4
                try clear hcz29_0
                try clear hcz29_1
                try clear hcz29_2
                try clear hcz29_3
                try clear hcz29_4
                try clear hcz7_0
                try clear hcz7_1
                try clear hcz7_2
                try clear hcz7_3
                try clear hcz7_4
                try clear hfz13_0
                try clear hfz13_1
                try clear hfz13_2
                try clear hfz13_3
                try clear hfz13_4
                try clear hfz19_0
                try clear hfz19_1
                try clear hfz19_2
                try clear hfz19_3
                try clear hfz19_4
                try clear hfz22_0
                try clear hfz22_1
                try clear hfz22_2
                try clear hfz22_3
                try clear hfz22_4
                try clear hfz29_0
                try clear hfz29_1
                try clear hfz29_2
                try clear hfz29_3
                try clear hfz29_4
                try clear hfz7_0
                try clear hfz7_1
                try clear hfz7_2
                try clear hfz7_3
                try clear hfz7_4
                try clear hx196_0
                try clear hx196_1
                try clear hx196_2
                try clear hx196_3
                try clear hx197_0
                try clear hx197_1
                try clear hx197_2
                try clear hx197_3
                try clear hx197_4
                try clear hx197_5
                try clear hx197_6
                try clear hx198_0
                try clear hx198_1
                try clear hx198_2
                try clear hx198_3
                try clear hx198_4
                try clear hx198_5
                try clear hx198_6
                try clear p1
                try clear p19
                try clear p196
                try clear p197
                try clear p198
                try clear p2
                try clear q1
                try clear q19
                try clear q196
                try clear q197
                try clear q198
                obtain ⟨kq, x6_22, rfl, HA, HJ22, HO_196003, BK193, BK194, BK195, HB⟩ := hcut
                cases kq with
                | zero => exact absurd HA.out (by simp [proofmarkref30_Bits.j2])
                | succ kj22 =>
                  have H := HA.out
                  clear HA
                  simp only [proofmarkref30_Bits.j2] at H
                  have H' := Aside0.mk H
                  clear H
                  go_wp2
                  try simp only [Act.put, List.setIfInBounds_toArray, List.set_cons_succ, List.set_cons_zero]
                  go_loopg [7] kj22 (fun kq v7 w' => ∃ (x7_4 : Int) (x196003_4 : List (S98)) (u196003 : Value), v7 = .int .i64 x7_4 ∧ Aside0 (proofmarkref30_Bits.l1 kq x4_1 x6_22 x7_4 l0_0 l0_1 l0_2 l0_3 l0_4 0 x196003_4 = some (r1, r2, r3, r4, r5)) ∧ Aside0 (kq ≤ kj22) ∧ Aside0 (Kd.R k98 98 w' w.heap.size (fun _ => True) u196003 x196003_4) ∧ Aside0 (w'.heap[gb193]? = some (.cells #[(.slice A0_0 l0_0.length c0_0), (.slice A0_1 l0_1.length c0_1), (.slice (some ad196) l0_2.length c0_2), (.slice A0_3 l0_3.length c0_3), (.slice A0_4 l0_4.length c0_4)] 27 (0, 0))) ∧ Aside0 (w'.heap[gb194]? = some (.cells #[.int .i64 0, (.slice none 0 0), (.slice none 0 0), (.slice none 0 0), (.slice none 0 0)] 53 (0, 0))) ∧ Aside0 (w'.heap[gb195]? = some (.cells #[.int .i64 0, (.slice none 0 0), (.slice none 0 0), u196003, (.slice none 0 0)] 53 (0, 0))) ∧ Aside0 (Below w.heap.size w w'))
                  case atStart => exact ⟨(0), (x196003_1), (u196003), rfl, H', ⟨Nat.le_refl _⟩, ⟨by exact HO_196003.out⟩, ⟨by exact BK193.out⟩, ⟨by exact BK194.out⟩, ⟨by exact BK195.out⟩, ⟨by exact HB.out⟩⟩
                  case round =>
                    clear H'
                    try clear c1
                    try clear p1
                    try clear q1
                    try clear hx1
                    try clear c2
                    try clear p2
                    try clear c5
                    try clear c6
                    try clear c8
                    try clear c8b0
                    try clear c9
                    try clear c9b0
                    try clear c11
                    try clear c12
                    try clear c14
                    try clear c14b0
                    try clear c15
                    try clear c15b0
                    try clear c16
                    try clear c16b0
                    try clear c17
                    try clear c18
                    try clear p19
                    try clear q19
                    try clear hx19
                    try clear c20
                    try clear c21
                    try clear c22
                    try clear c24
                    try clear c25
                    try clear c25b0
                    try clear c26
                    try clear c26b0
                    try clear c27
                    try clear c28
                    try clear hcz13_0
                    try clear hcz13_1
                    try clear hcz13_2
                    try clear hcz13_3
                    try clear hcz13_4
                    try clear hcz19_0
                    try clear hcz19_1
                    try clear hcz19_2
                    try clear hcz19_3
                    try clear hcz19_4
                    try clear hcz22_0
                    try clear hcz22_1
                    try clear hcz22_2
                    try clear hcz22_3
                    try clear hcz22_4
                    try clear hcz29_0
                    try clear hcz29_1
                    try clear hcz29_2
                    try clear hcz29_3
                    try clear hcz29_4
                    try clear hcz7_0
                    try clear hcz7_1
                    try clear hcz7_2
                    try clear hcz7_3
                    try clear hcz7_4
                    try clear hfz13_0
                    try clear hfz13_1
                    try clear hfz13_2
                    try clear hfz13_3
                    try clear hfz13_4
                    try clear hfz19_0
                    try clear hfz19_1
                    try clear hfz19_2
                    try clear hfz19_3
                    try clear hfz19_4
                    try clear hfz22_0
                    try clear hfz22_1
                    try clear hfz22_2
                    try clear hfz22_3
                    try clear hfz22_4
                    try clear hfz29_0
                    try clear hfz29_1
                    try clear hfz29_2
                    try clear hfz29_3
                    try clear hfz29_4
                    try clear hfz7_0
                    try clear hfz7_1
                    try clear hfz7_2
                    try clear hfz7_3
                    try clear hfz7_4
                    try clear hx196_0
                    try clear hx196_1
                    try clear hx196_2
                    try clear hx196_3
                    try clear hx197_0
                    try clear hx197_1
                    try clear hx197_2
                    try clear hx197_3
                    try clear hx197_4
                    try clear hx197_5
                    try clear hx197_6
                    try clear hx198_0
                    try clear hx198_1
                    try clear hx198_2
                    try clear hx198_3
                    try clear hx198_4
                    try clear hx198_5
                    try clear hx198_6
                    try clear p1
                    try clear p19
                    try clear p196
                    try clear p197
                    try clear p198
                    try clear p2
                    try clear q1
                    try clear q19
                    try clear q196
                    try clear q197
                    try clear q198
                    obtain ⟨x7_4, x196003_4, u196003, rfl, HA, HK4, HO_196003, BK193, BK194, BK195, HB⟩ := hrel
                    cases gk with
                    | zero => exact absurd HA.out (by simp [proofmarkref30_Bits.l1])
                    | succ k4 =>
                      have H := HA.out
                      clear HA
                      simp only [proofmarkref30_Bits.l1] at H
                      by_cases c30 : x7_4 < x6_22
                      · rw [if_pos c30] at H
                        have c30b0 : decide (x7_4 < x6_22) = true := decide_eq_true c30
                        clear c30
                        by_cases c31 : x196003_4.length < 3518437208883
                        · rw [if_pos c31] at H
                          have LMc31 := Aside0.mk c31
                          clear c31
                          obtain ⟨y199, hy199⟩ : ∃ y_ : List (S98), y_ = (x196003_4 ++ [(⟨0, 0, false, x4_1, x7_4⟩ : S98)]) := ⟨_, rfl⟩
                          replace H : (proofmarkref30_Bits.l1 k4 x4_1 x6_22 (wrap64 (x7_4 + 1)) l0_0 l0_1 l0_2 l0_3 l0_4 0 y199) = some (r1, r2, r3, r4, r5) := by first | (rw [hy199]; with_reducible exact H)
                          have Ny199 := Aside0.mk hy199
                          clear hy199
                          have H' := Aside0.mk H
                          clear H
                          have hnb32 := NB195_193.out
                          have hnc32 := NB193_195.out
                          have hnb33 := NB195_194.out
                          have hnc33 := NB194_195.out
                          have hcz34_0 : wr.cell? ⟨gb195, 0, none⟩ = some (.int .i64 0) := (blk_cell BK195.out 0).trans rfl
                          have hcz34_1 : wr.cell? ⟨gb195, 1, none⟩ = some (.slice none 0 0) := (blk_cell BK195.out 1).trans rfl
                          have hcz34_2 : wr.cell? ⟨gb195, 2, none⟩ = some (.slice none 0 0) := (blk_cell BK195.out 2).trans rfl
                          have hcz34_3 : wr.cell? ⟨gb195, 3, none⟩ = some (u196003) := (blk_cell BK195.out 3).trans rfl
                          have hcz34_4 : wr.cell? ⟨gb195, 4, none⟩ = some (.slice none 0 0) := (blk_cell BK195.out 4).trans rfl
                          have hfz34_0 := blk_frozen BK195.out 0
                          have hfz34_1 := blk_frozen BK195.out 1
                          have hfz34_2 := blk_frozen BK195.out 2
                          have hfz34_3 := blk_frozen BK195.out 3
                          have hfz34_4 := blk_frozen BK195.out 4
                          go_wp2_with (first | ((with_reducible refine gate_builtin (b := .append) (xs := #[.tmp 52, .tmp 56]) rfl ?_); (try (refine gate_guard (by rfl) ?_; dsimp only)); at_builtin; refine Kd.R_append k98 (w0 := w) w.heap.size rfl (.tmp 52) (.tmp 56) 50 98 (.agg #[(.int .i64 0), (.int .i64 0), (.bool false), (.int .i64 0), (.int .i64 0)]) 40 rfl Tryd.underlying50 info98 rfl (by decide) (by omega) u196003 x196003_4 (⟨0, 0, false, x4_1, x7_4⟩ : S98) [.int .i64 0, .int .i64 0, .bool false, .int .i64 x4_1, .int .i64 x7_4] (fun _ => True) (fun _ => False) rfl rfl ?aP (fun _ hk => hk.elim) ?aF ?aO ?aB ?aS ?aL ?_; (case aP => exact k98_mkM _ _ _ (⟨0, 0, false, x4_1, x7_4⟩ : S98)); (case aB => exact HB.out); (case aF => exact (fun _ _ => trivial)); (case aO => exact HO_196003.out); (case aS => exact (below_size HB.out)); (case aL => have := LMc31.out; omega); intro v200 w35 ho hb hg hat; rw [← Ny199.out] at ho; have n0_ := Aside0.mk (blk_grown (g := gb193) (o := .cells #[.slice A0_0 l0_0.length c0_0, .slice A0_1 l0_1.length c0_1, .slice (some ad196) l0_2.length c0_2, .slice A0_3 l0_3.length c0_3, .slice A0_4 l0_4.length c0_4] 27 (0, 0)) BK193.out hg (Kd.R_ne HO_196003.out BK193.out (by decide))); have n1_ := Aside0.mk (blk_grown (g := gb194) (o := .cells #[.int .i64 0, .slice none 0 0, .slice none 0 0, .slice none 0 0, .slice none 0 0] 53 (0, 0)) BK194.out hg (Kd.R_ne HO_196003.out BK194.out (by decide))); have n2_ := Aside0.mk (blk_grown (g := gb195) (o := .cells #[.int .i64 0, .slice none 0 0, .slice none 0 0, u196003, .slice none 0 0] 53 (0, 0)) BK195.out hg (Kd.R_ne HO_196003.out BK195.out (by decide))); have n3_ := Aside0.mk (hb); have n4_ := Aside0.mk (ho); clear BK193; clear BK194; clear BK195; clear HB; clear HO_196003; have BK193 := n0_; have BK194 := n1_; have BK195 := n2_; have HB := n3_; have HO201 := n4_; clear n0_ n1_ n2_ n3_ n4_; clear ho hb hg hat; obtain ⟨Ao36, co36, eo36⟩ := Kd.R_slice HO201.out; subst eo36; have hcz37_0 : w35.cell? ⟨gb195, 0, none⟩ = some (.int .i64 0) := (blk_cell BK195.out 0).trans rfl; have hcz37_1 : w35.cell? ⟨gb195, 1, none⟩ = some (.slice none 0 0) := (blk_cell BK195.out 1).trans rfl; have hcz37_2 : w35.cell? ⟨gb195, 2, none⟩ = some (.slice none 0 0) := (blk_cell BK195.out 2).trans rfl; have hcz37_3 : w35.cell? ⟨gb195, 3, none⟩ = some (u196003) := (blk_cell BK195.out 3).trans rfl; have hcz37_4 : w35.cell? ⟨gb195, 4, none⟩ = some (.slice none 0 0) := (blk_cell BK195.out 4).trans rfl; have hfz37_0 := blk_frozen BK195.out 0; have hfz37_1 := blk_frozen BK195.out 1; have hfz37_2 := blk_frozen BK195.out 2; have hfz37_3 := blk_frozen BK195.out 3; have hfz37_4 := blk_frozen BK195.out 4))
                          go_roundg k4
                          case measure => have := HK1.out; have := HJ9.out; have := HJ22.out; have := HK4.out; omega
                          case rel => exact ⟨(wrap64 (x7_4 + 1)), (y199), (.slice Ao36 y199.length co36), rfl, H', ⟨by have := HK1.out; have := HJ9.out; have := HJ22.out; have := HK4.out; omega⟩, ⟨by exact Kd.R_mono (Kd.R_far (p := ⟨gb195, 3, none⟩) (Kd.R_types HO201.out BK195.out (by decide)) (fun _ hk => hk.2) (.slice Ao36 y199.length co36)) (fun _ hk => trivial)⟩, ⟨by refine blk_far ?_ NB193_195.out _; exact BK193.out⟩, ⟨by refine blk_far ?_ NB194_195.out _; exact BK194.out⟩, ⟨by refine blk_put (cs := #[.int .i64 0, .slice none 0 0, .slice none 0 0, u196003, .slice none 0 0]) ?_ 3 _ rfl; exact BK195.out⟩, ⟨by repeat (first | (with_reducible first | exact HB.out | refine below_set ?_ GE195.out))⟩⟩
                        · rw [if_neg c31] at H
                          exact absurd H (by simp)
                      · rw [if_neg c30] at H
                        have c30b0 : decide (x7_4 < x6_22) = false := decide_eq_false c30
                        clear c30
                        have H' := Aside0.mk H
                        clear H
                        go_wp2
                        go_roundg k4
                        case measure => have := HK1.out; have := HJ9.out; have := HJ22.out; have := HK4.out; omega
                        case rel => exact ⟨(wrap64 (x4_1 + 1)), (x196003_4), (u196003), rfl, H', ⟨by have := HK1.out; have := HJ9.out; have := HJ22.out; have := HK4.out; omega⟩, ⟨by exact HO_196003.out⟩, ⟨by exact BK193.out⟩, ⟨by exact BK194.out⟩, ⟨by exact BK195.out⟩, ⟨by exact HB.out⟩⟩
        · rw [if_neg c9] at H
          exact absurd H (by simp)
      · rw [if_neg c8] at H
        have c8b0 : decide (x4_1 < (l0_2.length : Int)) = false := decide_eq_false c8
        clear c8
        simp only [Option.some.injEq, Prod.mk.injEq] at H
        obtain ⟨rfl, rfl, rfl, rfl, rfl⟩ := H
        have hnb38 := NB193_194.out
        have hnc38 := NB194_193.out
        have hnb39 := NB193_195.out
        have hnc39 := NB195_193.out
        have hcz40_0 : wr.cell? ⟨gb193, 0, none⟩ = some (.slice A0_0 l0_0.length c0_0) := (blk_cell BK193.out 0).trans rfl
        have hcz40_1 : wr.cell? ⟨gb193, 1, none⟩ = some (.slice A0_1 l0_1.length c0_1) := (blk_cell BK193.out 1).trans rfl
        have hcz40_2 : wr.cell? ⟨gb193, 2, none⟩ = some (.slice A0_2 l0_2.length c0_2) := (blk_cell BK193.out 2).trans rfl
        have hcz40_3 : wr.cell? ⟨gb193, 3, none⟩ = some (.slice A0_3 l0_3.length c0_3) := (blk_cell BK193.out 3).trans rfl
        have hcz40_4 : wr.cell? ⟨gb193, 4, none⟩ = some (.slice A0_4 l0_4.length c0_4) := (blk_cell BK193.out 4).trans rfl
        have hfz40_0 := blk_frozen BK193.out 0
        have hfz40_1 := blk_frozen BK193.out 1
        have hfz40_2 := blk_frozen BK193.out 2
        have hfz40_3 := blk_frozen BK193.out 3
        have hfz40_4 := blk_frozen BK193.out 4
        have hnb41 := NB195_194.out
        have hnc41 := NB194_195.out
        have hcz42_0 : wr.cell? ⟨gb195, 0, none⟩ = some (.int .i64 0) := (blk_cell BK195.out 0).trans rfl
        have hcz42_1 : wr.cell? ⟨gb195, 1, none⟩ = some (.slice none 0 0) := (blk_cell BK195.out 1).trans rfl
        have hcz42_2 : wr.cell? ⟨gb195, 2, none⟩ = some (.slice none 0 0) := (blk_cell BK195.out 2).trans rfl
        have hcz42_3 : wr.cell? ⟨gb195, 3, none⟩ = some (u196003) := (blk_cell BK195.out 3).trans rfl
        have hcz42_4 : wr.cell? ⟨gb195, 4, none⟩ = some (.slice none 0 0) := (blk_cell BK195.out 4).trans rfl
        have hfz42_0 := blk_frozen BK195.out 0
        have hfz42_1 := blk_frozen BK195.out 1
        have hfz42_2 := blk_frozen BK195.out 2
        have hfz42_3 := blk_frozen BK195.out 3
        have hfz42_4 := blk_frozen BK195.out 4
        have hcz43_0 : wr.cell? ⟨gb194, 0, none⟩ = some (.int .i64 0) := (blk_cell BK194.out 0).trans rfl
        have hcz43_1 : wr.cell? ⟨gb194, 1, none⟩ = some (.slice none 0 0) := (blk_cell BK194.out 1).trans rfl
        have hcz43_2 : wr.cell? ⟨gb194, 2, none⟩ = some (.slice none 0 0) := (blk_cell BK194.out 2).trans rfl
        have hcz43_3 : wr.cell? ⟨gb194, 3, none⟩ = some (.slice none 0 0) := (blk_cell BK194.out 3).trans rfl
        have hcz43_4 : wr.cell? ⟨gb194, 4, none⟩ = some (.slice none 0 0) := (blk_cell BK194.out 4).trans rfl
        have hfz43_0 := blk_frozen BK194.out 0
        have hfz43_1 := blk_frozen BK194.out 1
        have hfz43_2 := blk_frozen BK194.out 2
        have hfz43_3 := blk_frozen BK194.out 3
        have hfz43_4 := blk_frozen BK194.out 4
        obtain ⟨Ao44, co44, eo44⟩ := Kd.R_slice HO_196003.out
        subst eo44
        go_wp2
        refine bodyPost_ret (results_cell_row rfl _ _ gb194 53 #[.int .i64 0, .slice none 0 0, .slice none 0 0, .slice Ao44 x196003_1.length co44, .slice none 0 0] (0, 0) _ rfl (by refine blk_put (cs := #[.int .i64 0, .slice none 0 0, .slice none 0 0, .slice Ao44 x196003_1.length co44, .slice none 0 0]) ?_ 4 _ rfl; refine blk_put (cs := #[.int .i64 0, .slice none 0 0, .slice none 0 0, .slice none 0 0, .slice none 0 0]) ?_ 3 _ rfl; refine blk_put (cs := #[.int .i64 0, .slice none 0 0, .slice none 0 0, .slice none 0 0, .slice none 0 0]) ?_ 2 _ rfl; refine blk_put (cs := #[.int .i64 0, .slice none 0 0, .slice none 0 0, .slice none 0 0, .slice none 0 0]) ?_ 1 _ rfl; refine blk_put (cs := #[.int .i64 0, .slice none 0 0, .slice none 0 0, .slice none 0 0, .slice none 0 0]) ?_ 0 _ rfl; exact BK194.out) Tryd.underlying53 rfl (by kernel_rfl)) rfl ?_
        exact ⟨_, _, _, _, by first | rfl, by first | exact Kd.R_nil _ _ _ _ _, by first | exact Kd.R_nil _ _ _ _ _, by exact Kd.R_mono (Kd.R_far (p := ⟨gb194, 4, none⟩) (Kd.R_far (p := ⟨gb194, 3, none⟩) (Kd.R_far (p := ⟨gb194, 2, none⟩) (Kd.R_far (p := ⟨gb194, 1, none⟩) (Kd.R_far (p := ⟨gb194, 0, none⟩) (Kd.R_types HO_196003.out BK194.out (by decide)) (fun _ hk => hk.2) (.int .i64 0)) (fun _ hk => hk.2) (.slice none 0 0)) (fun _ hk => hk.2) (.slice none 0 0)) (fun _ hk => hk.2) (.slice Ao44 x196003_1.length co44)) (fun _ hk => hk.2) (.slice none 0 0)) (fun _ hk => trivial), by first | exact Kd.R_nil _ _ _ _ _, by repeat (first | (with_reducible first | exact HB.out | refine below_set ?_ GE194.out))⟩

/-! ### proofmarkref30_kind: function 40 -/
def proofmarkref30_kind.f (a0 : Int) : Option (ByteArray) := if a0 = 8 then (some (⟨#[97, 115, 115, 101, 114, 116]⟩ : ByteArray)) else (if a0 = 9 then (some (⟨#[97, 115, 115, 117, 109, 101]⟩ : ByteArray)) else (if a0 = 10 then (some (⟨#[99, 111, 118, 101, 114]⟩ : ByteArray)) else (some (⟨#[63]⟩ : ByteArray))))
set_option maxHeartbeats 8000000 in
set_option maxRecDepth 100000 in
theorem proofmarkref30_kind.calls (a0 : Int) (r : ByteArray) (w : World) (h : proofmarkref30_kind.f a0 = some r) :
    Calls Tryd.prog 40 #[.int .i64 a0] w fun e w' => e = .returned (.string r) ∧ Drawn0 w w' := by
  have H : (if a0 = 8 then (some (⟨#[97, 115, 115, 101, 114, 116]⟩ : ByteArray)) else (if a0 = 9 then (some (⟨#[97, 115, 115, 117, 109, 101]⟩ : ByteArray)) else (if a0 = 10 then (some (⟨#[99, 111, 118, 101, 114]⟩ : ByteArray)) else (some (⟨#[63]⟩ : ByteArray))))) = some r := h
  clear h
  by_cases c2 : a0 = 8
  · rw [if_pos c2] at H
    have c2b0 : (a0 == 8) = true := beq_iff_eq.mpr c2
    have c2b1 : (a0 != 8) = false := bne_eq_false_iff_eq.mpr c2
    clear c2
    obtain rfl := Option.some.inj H
    go_enter Tryd.func40, Tryd.ntmps40
    go_wp2
    go_ret
    exact ⟨by first | rfl, by repeat (first | exact Drawn0.refl _)⟩
  · rw [if_neg c2] at H
    have c2b0 : (a0 == 8) = false := beq_eq_false_iff_ne.mpr c2
    have c2b1 : (a0 != 8) = true := bne_iff_ne.mpr c2
    by_cases c3 : a0 = 9
    · rw [if_pos c3] at H
      have c3b0 : (a0 == 9) = true := beq_iff_eq.mpr c3
      have c3b1 : (a0 != 9) = false := bne_eq_false_iff_eq.mpr c3
      clear c3
      obtain rfl := Option.some.inj H
      go_enter Tryd.func40, Tryd.ntmps40
      go_wp2
      go_ret
      exact ⟨by first | rfl, by repeat (first | exact Drawn0.refl _)⟩
    · rw [if_neg c3] at H
      have c3b0 : (a0 == 9) = false := beq_eq_false_iff_ne.mpr c3
      have c3b1 : (a0 != 9) = true := bne_iff_ne.mpr c3
      by_cases c4 : a0 = 10
      · rw [if_pos c4] at H
        have c4b0 : (a0 == 10) = true := beq_iff_eq.mpr c4
        have c4b1 : (a0 != 10) = false := bne_eq_false_iff_eq.mpr c4
        clear c4
        obtain rfl := Option.some.inj H
        go_enter Tryd.func40, Tryd.ntmps40
        go_wp2
        go_ret
        exact ⟨by first | rfl, by repeat (first | exact Drawn0.refl _)⟩
      · rw [if_neg c4] at H
        have c4b0 : (a0 == 10) = false := beq_eq_false_iff_ne.mpr c4
        have c4b1 : (a0 != 10) = true := bne_iff_ne.mpr c4
        obtain rfl := Option.some.inj H
        go_enter Tryd.func40, Tryd.ntmps40
        go_wp2
        go_ret
        exact ⟨by first | rfl, by repeat (first | exact Drawn0.refl _)⟩

end Go.Proofs.YtmfekngjhiofaaaDoor.Q
