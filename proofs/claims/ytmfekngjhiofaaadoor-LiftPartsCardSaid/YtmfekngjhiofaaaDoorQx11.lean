-- Written by the session's own program (wip/tools/ownprint.py) for this claim: functions of the translation as plain Lean functions, and their contracts.
import Derived.Test.YtmfekngjhiofaaaDoorQx0
namespace Go.Proofs.YtmfekngjhiofaaaDoor.Q
open Go.RowKit Go.Proofs.YtmfekngjhiofaaaDoorW.PrintWords Go.Proofs.YtmfekngjhiofaaaDoorW.PrintLast Go.Proofs.YtmfekngjhiofaaaDoorW.PrintMore
attribute [local go_sem] max2_int min2_int max_two min_two max_three min_three max_four min_four   -- for this text's walks alone
set_option linter.unusedVariables false
set_option linter.unusedSimpArgs false

-- BY HAND: function 13 (proofmarklaw30_head)

/-! ### proofmarkref27_Few: function 33 -/
mutual
def proofmarkref27_Few.j1 : Nat → List (S96) → List (S111) → List (S94) → List (S73) → List (S111) → List (S111) → Option ((List (S96)) × (List (S111)) × (List (S94)) × (List (S73)) × (List (S111)))
  | 0, _, _, _, _, _, _ => none
  | k + 1, x125000, x125001, x125002, x125003, x125004, x127001 => proofmarkref27_Few.l1 k 0 x125000 x125001 x125002 x125003 x125004 x127001 ([] : List (S94))
def proofmarkref27_Few.l1 : Nat → Int → List (S96) → List (S111) → List (S94) → List (S73) → List (S111) → List (S111) → List (S94) → Option ((List (S96)) × (List (S111)) × (List (S94)) × (List (S73)) × (List (S111)))
  | 0, _, _, _, _, _, _, _, _ => none
  | k + 1, x6, x125000, x125001, x125002, x125003, x125004, x127001, x127002 => if x6 < (x125002.length : Int) then (if x6 < 20 then (if 0 ≤ x6 then (if 0 ≤ (mn (((rd_T94 x125002 x6).f0).size : Int) 12) then (if (mn (((rd_T94 x125002 x6).f0).size : Int) 12) ≤ (((rd_T94 x125002 x6).f0).size : Int) then (if x127002.length < 3518437208883 then (proofmarkref27_Few.l1 k (wrap64 (x6 + 1)) x125000 x125001 x125002 x125003 x125004 x127001 (x127002 ++ [(⟨((rd_T94 x125002 x6).f0).extract 0 ((mn (((rd_T94 x125002 x6).f0).size : Int) 12) : Int).toNat, (rd_T94 x125002 x6).f1, (rd_T94 x125002 x6).f2, (rd_T94 x125002 x6).f3⟩ : S94)])) else (none)) else (none)) else (none)) else (none)) else (some (([] : List (S96)), x127001, x127002, ([] : List (S73)), ([] : List (S111))))) else (some (([] : List (S96)), x127001, x127002, ([] : List (S73)), ([] : List (S111))))
def proofmarkref27_Few.l0 : Nat → Int → List (S96) → List (S111) → List (S94) → List (S73) → List (S111) → List (S111) → Option ((List (S96)) × (List (S111)) × (List (S94)) × (List (S73)) × (List (S111)))
  | 0, _, _, _, _, _, _, _ => none
  | k + 1, x4, x125000, x125001, x125002, x125003, x125004, x127001 => if x4 < (x125001.length : Int) then (if x4 < 20 then (if 0 ≤ x4 then (if 0 ≤ (mn (((rd_T111 x125001 x4).f0).size : Int) 12) then (if (mn (((rd_T111 x125001 x4).f0).size : Int) 12) ≤ (((rd_T111 x125001 x4).f0).size : Int) then (if x127001.length < 5864062014805 then (proofmarkref27_Few.l0 k (wrap64 (x4 + 1)) x125000 x125001 x125002 x125003 x125004 (x127001 ++ [(⟨((rd_T111 x125001 x4).f0).extract 0 ((mn (((rd_T111 x125001 x4).f0).size : Int) 12) : Int).toNat, (rd_T111 x125001 x4).f1⟩ : S111)])) else (none)) else (none)) else (none)) else (none)) else (proofmarkref27_Few.j1 k x125000 x125001 x125002 x125003 x125004 x127001)) else (proofmarkref27_Few.j1 k x125000 x125001 x125002 x125003 x125004 x127001)
end
def proofmarkref27_Few.f (k : Nat) (l0_0 : List (S96)) (l0_1 : List (S111)) (l0_2 : List (S94)) (l0_3 : List (S73)) (l0_4 : List (S111)) : Option ((List (S96)) × (List (S111)) × (List (S94)) × (List (S73)) × (List (S111))) := proofmarkref27_Few.l0 k 0 l0_0 l0_1 l0_2 l0_3 l0_4 ([] : List (S111))
theorem proofmarkref27_Few.mono_l : ∀ k, (∀ y0 y1 y2 y3 y4 y5, LeO (proofmarkref27_Few.j1 k y0 y1 y2 y3 y4 y5) (proofmarkref27_Few.j1 (k + 1) y0 y1 y2 y3 y4 y5)) ∧ (∀ y0 y1 y2 y3 y4 y5 y6 y7, LeO (proofmarkref27_Few.l1 k y0 y1 y2 y3 y4 y5 y6 y7) (proofmarkref27_Few.l1 (k + 1) y0 y1 y2 y3 y4 y5 y6 y7)) ∧ (∀ y0 y1 y2 y3 y4 y5 y6, LeO (proofmarkref27_Few.l0 k y0 y1 y2 y3 y4 y5 y6) (proofmarkref27_Few.l0 (k + 1) y0 y1 y2 y3 y4 y5 y6))
  | 0 => ⟨fun _ _ _ _ _ _ r h => by simp [proofmarkref27_Few.j1] at h, fun _ _ _ _ _ _ _ _ r h => by simp [proofmarkref27_Few.l1] at h, fun _ _ _ _ _ _ _ r h => by simp [proofmarkref27_Few.l0] at h⟩
  | k + 1 => by
    obtain ⟨ih0, ih1, ih2⟩ := proofmarkref27_Few.mono_l k
    refine ⟨?_, ?_, ?_⟩
    · intro y0 y1 y2 y3 y4 y5
      unfold proofmarkref27_Few.j1
      repeat' first
      | (with_reducible exact ih0 _ _ _ _ _ _)
      | (with_reducible exact ih1 _ _ _ _ _ _ _ _)
      | (with_reducible exact ih2 _ _ _ _ _ _ _)
      | (with_reducible exact LeO.refl _)
      | (with_reducible exact LeO.none _)
      | (with_reducible refine LeO.ite ?_ ?_)
      | (with_reducible refine LeO.bind ?_ (fun _ => ?_))
      | exact ih0 _ _ _ _ _ _
      | exact ih1 _ _ _ _ _ _ _ _
      | exact ih2 _ _ _ _ _ _ _
      | exact LeO.none _
      | refine LeO.ite ?_ ?_
      | refine LeO.bind ?_ (fun _ => ?_)
    · intro y0 y1 y2 y3 y4 y5 y6 y7
      unfold proofmarkref27_Few.l1
      repeat' first
      | (with_reducible exact ih0 _ _ _ _ _ _)
      | (with_reducible exact ih1 _ _ _ _ _ _ _ _)
      | (with_reducible exact ih2 _ _ _ _ _ _ _)
      | (with_reducible exact LeO.refl _)
      | (with_reducible exact LeO.none _)
      | (with_reducible refine LeO.ite ?_ ?_)
      | (with_reducible refine LeO.bind ?_ (fun _ => ?_))
      | exact ih0 _ _ _ _ _ _
      | exact ih1 _ _ _ _ _ _ _ _
      | exact ih2 _ _ _ _ _ _ _
      | exact LeO.none _
      | refine LeO.ite ?_ ?_
      | refine LeO.bind ?_ (fun _ => ?_)
    · intro y0 y1 y2 y3 y4 y5 y6
      unfold proofmarkref27_Few.l0
      repeat' first
      | (with_reducible exact ih0 _ _ _ _ _ _)
      | (with_reducible exact ih1 _ _ _ _ _ _ _ _)
      | (with_reducible exact ih2 _ _ _ _ _ _ _)
      | (with_reducible exact LeO.refl _)
      | (with_reducible exact LeO.none _)
      | (with_reducible refine LeO.ite ?_ ?_)
      | (with_reducible refine LeO.bind ?_ (fun _ => ?_))
      | exact ih0 _ _ _ _ _ _
      | exact ih1 _ _ _ _ _ _ _ _
      | exact ih2 _ _ _ _ _ _ _
      | exact LeO.none _
      | refine LeO.ite ?_ ?_
      | refine LeO.bind ?_ (fun _ => ?_)
theorem proofmarkref27_Few.mono : ∀ a0 a1 a2 a3 a4 k, LeO (proofmarkref27_Few.f k a0 a1 a2 a3 a4) (proofmarkref27_Few.f (k + 1) a0 a1 a2 a3 a4) := by
  intro a0 a1 a2 a3 a4 k
  obtain ⟨ih0, ih1, ih2⟩ := proofmarkref27_Few.mono_l k
  unfold proofmarkref27_Few.f
  repeat' first
      | (with_reducible exact ih0 _ _ _ _ _ _)
      | (with_reducible exact ih1 _ _ _ _ _ _ _ _)
      | (with_reducible exact ih2 _ _ _ _ _ _ _)
      | (with_reducible exact LeO.refl _)
      | (with_reducible exact LeO.none _)
      | (with_reducible refine LeO.ite ?_ ?_)
      | (with_reducible refine LeO.bind ?_ (fun _ => ?_))
      | exact ih0 _ _ _ _ _ _
      | exact ih1 _ _ _ _ _ _ _ _
      | exact ih2 _ _ _ _ _ _ _
      | exact LeO.none _
      | refine LeO.ite ?_ ?_
      | refine LeO.bind ?_ (fun _ => ?_)
set_option maxHeartbeats 8000000 in
set_option maxRecDepth 100000 in
theorem proofmarkref27_Few.calls (k : Nat) (A0_0 : Option Addr) (c0_0 : Nat) (l0_0 : List (S96)) (A0_1 : Option Addr) (c0_1 : Nat) (l0_1 : List (S111)) (A0_2 : Option Addr) (c0_2 : Nat) (l0_2 : List (S94)) (A0_3 : Option Addr) (c0_3 : Nat) (l0_3 : List (S73)) (A0_4 : Option Addr) (c0_4 : Nat) (l0_4 : List (S111)) (r1 : List (S96)) (r2 : List (S111)) (r3 : List (S94)) (r4 : List (S73)) (r5 : List (S111)) (w : World) (hr0_0 : Kd.C k96 w A0_0 l0_0.length l0_0) (hc0_0 : l0_0.length ≤ c0_0) (hr0_1 : Kd.C k111 w A0_1 l0_1.length l0_1) (hc0_1 : l0_1.length ≤ c0_1) (hr0_2 : Kd.C k94 w A0_2 l0_2.length l0_2) (hc0_2 : l0_2.length ≤ c0_2) (hr0_3 : Kd.C k73 w A0_3 l0_3.length l0_3) (hc0_3 : l0_3.length ≤ c0_3) (hr0_4 : Kd.C k111 w A0_4 l0_4.length l0_4) (hc0_4 : l0_4.length ≤ c0_4) (h : proofmarkref27_Few.f k l0_0 l0_1 l0_2 l0_3 l0_4 = some (r1, r2, r3, r4, r5)) :
    Calls Tryd.prog 33 #[.agg #[.slice A0_0 l0_0.length c0_0, .slice A0_1 l0_1.length c0_1, .slice A0_2 l0_2.length c0_2, .slice A0_3 l0_3.length c0_3, .slice A0_4 l0_4.length c0_4]] w fun e w' => ∃ v0_ v1_ v2_ v3_ v4_ : Value, e = .returned (.agg #[v0_, v1_, v2_, v3_, v4_]) ∧ Kd.R k96 96 w' w.heap.size (fun _ => True) v0_ r1 ∧ Kd.R k111 111 w' w.heap.size (fun k_ => some k_ ≠ (v4_ : Value).ownBlock) v1_ r2 ∧ Kd.R k94 94 w' w.heap.size (fun _ => True) v2_ r3 ∧ Kd.R k73 73 w' w.heap.size (fun _ => True) v3_ r4 ∧ Kd.R k111 111 w' w.heap.size (fun k_ => some k_ ≠ (v1_ : Value).ownBlock) v4_ r5 ∧ Below w.heap.size w w' := by
  have hu27 := Tryd.underlying27
  have hu111 := Tryd.underlying111
  have hu94 := Tryd.underlying94
  have HR0_0 := Aside0.mk hr0_0
  have HC0_0 := Aside0.mk hc0_0
  clear hr0_0 hc0_0
  have HR0_1 := Aside0.mk hr0_1
  have HC0_1 := Aside0.mk hc0_1
  clear hr0_1 hc0_1
  have HR0_2 := Aside0.mk hr0_2
  have HC0_2 := Aside0.mk hc0_2
  clear hr0_2 hc0_2
  have HR0_3 := Aside0.mk hr0_3
  have HC0_3 := Aside0.mk hc0_3
  clear hr0_3 hc0_3
  have HR0_4 := Aside0.mk hr0_4
  have HC0_4 := Aside0.mk hc0_4
  clear hr0_4 hc0_4
  have HB := Aside0.mk (Below.refl w.heap.size w)
  have H : (proofmarkref27_Few.l0 k 0 l0_0 l0_1 l0_2 l0_3 l0_4 ([] : List (S111))) = some (r1, r2, r3, r4, r5) := h
  clear h
  have HC2 := Aside0.mk H
  clear H
  go_enter Tryd.func33, Tryd.ntmps33
  go_upto_block 0 with (first | ((with_reducible refine gate_dst (N := 1) rfl ?_); refine box_event ?hg (N := 1) ?hd (cs := #[.slice A0_0 l0_0.length c0_0, .slice A0_1 l0_1.length c0_1, .slice A0_2 l0_2.length c0_2, .slice A0_3 l0_3.length c0_3, .slice A0_4 l0_4.length c0_4]) (t := 27) ?hr ?_; (case hd => rfl); (case hg => rfl); (case hr => first | (go_simp; done)); intro gb124 hg w3 hbox hb; have n0_ := Aside0.mk (below_step HB.out hb); have n1_ := Aside0.mk (hbox); have n2_ := Aside0.mk ((by rw [hg]; exact (below_size HB.out) : w.heap.size ≤ gb124)); have n3_ := Aside0.mk ((by rw [hg]; exact (below_size HB.out) : w.heap.size ≤ gb124)); clear HB; have HB := n0_; have BK124 := n1_; have GW124 := n2_; have GE124 := n3_; clear n0_ n1_ n2_ n3_; clear hb hbox hg) | ((with_reducible refine gate_dst (N := 2) rfl ?_); refine box_event ?hg (N := 2) ?hd (cs := #[.slice none 0 0, .slice none 0 0, .slice none 0 0, .slice none 0 0, .slice none 0 0]) (t := 27) ?hr ?_; (case hd => rfl); (case hg => rfl); (case hr => first | (go_simp; done)); intro gb125 hg w4 hbox hb; have n0_ := Aside0.mk (blk_below BK124.out hb); have n1_ := Aside0.mk (below_step HB.out hb); have n2_ := Aside0.mk (hbox); have n3_ := Aside0.mk ((by rw [hg]; exact (below_size HB.out) : w.heap.size ≤ gb125)); have n4_ := Aside0.mk ((by rw [hg]; exact (below_size HB.out) : w.heap.size ≤ gb125)); have n5_ := Aside0.mk ((by rw [hg]; exact Nat.ne_of_lt (blk_lt BK124.out) : gb124 ≠ gb125)); have n6_ := Aside0.mk ((by rw [hg]; exact Nat.ne_of_gt (blk_lt BK124.out) : gb125 ≠ gb124)); clear BK124; clear HB; have BK124 := n0_; have HB := n1_; have BK125 := n2_; have GW125 := n3_; have GE125 := n4_; have NB124_125 := n5_; have NB125_124 := n6_; clear n0_ n1_ n2_ n3_ n4_ n5_ n6_; clear hb hbox hg) | ((with_reducible refine gate_dst (N := 3) rfl ?_); refine box_event ?hg (N := 3) ?hd (cs := #[.slice none 0 0, .slice none 0 0, .slice none 0 0, .slice none 0 0, .slice none 0 0]) (t := 27) ?hr ?_; (case hd => rfl); (case hg => rfl); (case hr => first | (go_simp; done)); intro gb126 hg w5 hbox hb; have n0_ := Aside0.mk (blk_below BK124.out hb); have n1_ := Aside0.mk (blk_below BK125.out hb); have n2_ := Aside0.mk (below_step HB.out hb); have n3_ := Aside0.mk (hbox); have n4_ := Aside0.mk ((by rw [hg]; exact (below_size HB.out) : w.heap.size ≤ gb126)); have n5_ := Aside0.mk ((by rw [hg]; exact (below_size HB.out) : w.heap.size ≤ gb126)); have n6_ := Aside0.mk ((by rw [hg]; exact Nat.ne_of_lt (blk_lt BK124.out) : gb124 ≠ gb126)); have n7_ := Aside0.mk ((by rw [hg]; exact Nat.ne_of_gt (blk_lt BK124.out) : gb126 ≠ gb124)); have n8_ := Aside0.mk ((by rw [hg]; exact Nat.ne_of_lt (blk_lt BK125.out) : gb125 ≠ gb126)); have n9_ := Aside0.mk ((by rw [hg]; exact Nat.ne_of_gt (blk_lt BK125.out) : gb126 ≠ gb125)); clear BK124; clear BK125; clear HB; have BK124 := n0_; have BK125 := n1_; have HB := n2_; have BK126 := n3_; have GW126 := n4_; have GE126 := n5_; have NB124_126 := n6_; have NB126_124 := n7_; have NB125_126 := n8_; have NB126_125 := n9_; clear n0_ n1_ n2_ n3_ n4_ n5_ n6_ n7_ n8_ n9_; clear hb hbox hg; have hnb6 := NB126_124.out; have hnc6 := NB124_126.out; have hnb7 := NB126_125.out; have hnc7 := NB125_126.out; have hcz8_0 : w5.cell? ⟨gb126, 0, none⟩ = some (.slice none 0 0) := (blk_cell BK126.out 0).trans rfl; have hcz8_1 : w5.cell? ⟨gb126, 1, none⟩ = some (.slice none 0 0) := (blk_cell BK126.out 1).trans rfl; have hcz8_2 : w5.cell? ⟨gb126, 2, none⟩ = some (.slice none 0 0) := (blk_cell BK126.out 2).trans rfl; have hcz8_3 : w5.cell? ⟨gb126, 3, none⟩ = some (.slice none 0 0) := (blk_cell BK126.out 3).trans rfl; have hcz8_4 : w5.cell? ⟨gb126, 4, none⟩ = some (.slice none 0 0) := (blk_cell BK126.out 4).trans rfl; have hfz8_0 := blk_frozen BK126.out 0; have hfz8_1 := blk_frozen BK126.out 1; have hfz8_2 := blk_frozen BK126.out 2; have hfz8_3 := blk_frozen BK126.out 3; have hfz8_4 := blk_frozen BK126.out 4))
  (try simp only [Act.put, List.setIfInBounds_toArray, List.set_cons_zero, List.set_cons_succ])
  go_cut [] (fun wc => ∃ (kq : Nat) (x127001_1 : List (S111)) (u127001 : Value), Aside0 (proofmarkref27_Few.j1 kq l0_0 l0_1 l0_2 l0_3 l0_4 x127001_1 = some (r1, r2, r3, r4, r5)) ∧ Aside0 (kq ≤ k) ∧ Aside0 (Kd.R k111 111 wc w.heap.size (fun _ => True) u127001 x127001_1) ∧ Aside0 (wc.heap[gb124]? = some (.cells #[(.slice A0_0 l0_0.length c0_0), (.slice A0_1 l0_1.length c0_1), (.slice A0_2 l0_2.length c0_2), (.slice A0_3 l0_3.length c0_3), (.slice A0_4 l0_4.length c0_4)] 27 (0, 0))) ∧ Aside0 (wc.heap[gb125]? = some (.cells #[(.slice none 0 0), (.slice none 0 0), (.slice none 0 0), (.slice none 0 0), (.slice none 0 0)] 27 (0, 0))) ∧ Aside0 (wc.heap[gb126]? = some (.cells #[(.slice none 0 0), u127001, (.slice none 0 0), (.slice none 0 0), (.slice none 0 0)] 27 (0, 0))) ∧ Aside0 (Below w.heap.size w wc))
  case first =>
    have H := HC2.out
    clear HC2
    have H' := Aside0.mk H
    clear H
    go_wp2
    try simp only [Act.put, List.setIfInBounds_toArray, List.set_cons_succ, List.set_cons_zero]
    go_loopg [4] k (fun kq v4 w' => ∃ (x4_1 : Int) (x127001_1 : List (S111)) (u127001 : Value), v4 = .int .i64 x4_1 ∧ Aside0 (proofmarkref27_Few.l0 kq x4_1 l0_0 l0_1 l0_2 l0_3 l0_4 x127001_1 = some (r1, r2, r3, r4, r5)) ∧ Aside0 (kq ≤ k) ∧ Aside0 (Kd.R k111 111 w' w.heap.size (fun _ => True) u127001 x127001_1) ∧ Aside0 (w'.heap[gb124]? = some (.cells #[(.slice A0_0 l0_0.length c0_0), (.slice A0_1 l0_1.length c0_1), (.slice A0_2 l0_2.length c0_2), (.slice A0_3 l0_3.length c0_3), (.slice A0_4 l0_4.length c0_4)] 27 (0, 0))) ∧ Aside0 (w'.heap[gb125]? = some (.cells #[(.slice none 0 0), (.slice none 0 0), (.slice none 0 0), (.slice none 0 0), (.slice none 0 0)] 27 (0, 0))) ∧ Aside0 (w'.heap[gb126]? = some (.cells #[(.slice none 0 0), u127001, (.slice none 0 0), (.slice none 0 0), (.slice none 0 0)] 27 (0, 0))) ∧ Aside0 (Below w.heap.size w w'))
    case atStart => exact ⟨(0), (([] : List (S111))), (.slice none 0 0), rfl, H', ⟨Nat.le_refl _⟩, ⟨by first | exact Kd.R_nil _ _ _ _ _⟩, ⟨by refine blk_far ?_ NB124_126.out _; refine blk_far ?_ NB124_126.out _; refine blk_far ?_ NB124_126.out _; refine blk_far ?_ NB124_126.out _; refine blk_far ?_ NB124_126.out _; exact BK124.out⟩, ⟨by refine blk_far ?_ NB125_126.out _; refine blk_far ?_ NB125_126.out _; refine blk_far ?_ NB125_126.out _; refine blk_far ?_ NB125_126.out _; refine blk_far ?_ NB125_126.out _; exact BK125.out⟩, ⟨by refine blk_put (cs := #[.slice none 0 0, .slice none 0 0, .slice none 0 0, .slice none 0 0, .slice none 0 0]) ?_ 4 _ rfl; refine blk_put (cs := #[.slice none 0 0, .slice none 0 0, .slice none 0 0, .slice none 0 0, .slice none 0 0]) ?_ 3 _ rfl; refine blk_put (cs := #[.slice none 0 0, .slice none 0 0, .slice none 0 0, .slice none 0 0, .slice none 0 0]) ?_ 2 _ rfl; refine blk_put (cs := #[.slice none 0 0, .slice none 0 0, .slice none 0 0, .slice none 0 0, .slice none 0 0]) ?_ 1 _ rfl; refine blk_put (cs := #[.slice none 0 0, .slice none 0 0, .slice none 0 0, .slice none 0 0, .slice none 0 0]) ?_ 0 _ rfl; exact BK126.out⟩, ⟨by repeat (first | (with_reducible first | exact HB.out | refine below_set ?_ GE126.out))⟩⟩
    case round =>
      clear H'
      try clear p2
      try clear c3
      try clear c6
      try clear c7
      try clear hcz8_0
      try clear hcz8_1
      try clear hcz8_2
      try clear hcz8_3
      try clear hcz8_4
      try clear hfz8_0
      try clear hfz8_1
      try clear hfz8_2
      try clear hfz8_3
      try clear hfz8_4
      obtain ⟨x4_1, x127001_1, u127001, rfl, HA, HK1, HO_127001, BK124, BK125, BK126, HB⟩ := hrel
      cases gk with
      | zero => exact absurd HA.out (by simp [proofmarkref27_Few.l0])
      | succ k1 =>
        have H := HA.out
        clear HA
        simp only [proofmarkref27_Few.l0] at H
        by_cases c9 : x4_1 < (l0_1.length : Int)
        · rw [if_pos c9] at H
          have c9b0 : decide (x4_1 < (l0_1.length : Int)) = true := decide_eq_true c9
          clear c9
          (first | skip)
          by_cases c10 : x4_1 < 20
          · rw [if_pos c10] at H
            have c10b0 : decide (x4_1 < 20) = true := decide_eq_true c10
            clear c10
            by_cases c11 : 0 ≤ x4_1
            · rw [if_pos c11] at H
              have c11b0 : decide (0 ≤ x4_1) = true := decide_eq_true c11
              clear c11
              obtain ⟨ji12, hji12⟩ : ∃ j_ : Int, (mn (((rd_T111 l0_1 x4_1).f0).size : Int) 12) = j_ := ⟨_, rfl⟩
              replace H : (if 0 ≤ (ji12) then (if (ji12) ≤ (((rd_T111 l0_1 x4_1).f0).size : Int) then (if x127001_1.length < 5864062014805 then (proofmarkref27_Few.l0 k1 (wrap64 (x4_1 + 1)) l0_0 l0_1 l0_2 l0_3 l0_4 (x127001_1 ++ [(⟨((rd_T111 l0_1 x4_1).f0).extract 0 ((ji12) : Int).toNat, (rd_T111 l0_1 x4_1).f1⟩ : S111)])) else (none)) else (none)) else (none)) = some (r1, r2, r3, r4, r5) := by first | (rw [hji12] at H; exact H)
              have hji12_ : (if 12 < (((rd_T111 l0_1 x4_1).f0).size : Int) then 12 else (((rd_T111 l0_1 x4_1).f0).size : Int)) = ji12 := hji12
              by_cases c13 : 0 ≤ (ji12)
              · rw [if_pos c13] at H
                have c13b0 := eq_true c13
                have c13b1 : decide (0 ≤ (ji12)) = true := decide_eq_true c13
                clear c13
                by_cases c14 : (ji12) ≤ (((rd_T111 l0_1 x4_1).f0).size : Int)
                · rw [if_pos c14] at H
                  have c14b0 := eq_true c14
                  have c14b1 : decide ((ji12) ≤ (((rd_T111 l0_1 x4_1).f0).size : Int)) = true := decide_eq_true c14
                  clear c14
                  by_cases c15 : x127001_1.length < 5864062014805
                  · rw [if_pos c15] at H
                    have LMc15 := Aside0.mk c15
                    clear c15
                    obtain ⟨y129, hy129⟩ : ∃ y_ : List (S111), y_ = (x127001_1 ++ [(⟨((rd_T111 l0_1 x4_1).f0).extract 0 ((ji12) : Int).toNat, (rd_T111 l0_1 x4_1).f1⟩ : S111)]) := ⟨_, rfl⟩
                    replace H : (proofmarkref27_Few.l0 k1 (wrap64 (x4_1 + 1)) l0_0 l0_1 l0_2 l0_3 l0_4 y129) = some (r1, r2, r3, r4, r5) := by first | (rw [hy129]; with_reducible exact H)
                    have Ny129 := Aside0.mk hy129
                    clear hy129
                    have H' := Aside0.mk H
                    clear H
                    have hnb16 := NB124_125.out
                    have hnc16 := NB125_124.out
                    have hnb17 := NB124_126.out
                    have hnc17 := NB126_124.out
                    have hcz18_0 : wr.cell? ⟨gb124, 0, none⟩ = some (.slice A0_0 l0_0.length c0_0) := (blk_cell BK124.out 0).trans rfl
                    have hcz18_1 : wr.cell? ⟨gb124, 1, none⟩ = some (.slice A0_1 l0_1.length c0_1) := (blk_cell BK124.out 1).trans rfl
                    have hcz18_2 : wr.cell? ⟨gb124, 2, none⟩ = some (.slice A0_2 l0_2.length c0_2) := (blk_cell BK124.out 2).trans rfl
                    have hcz18_3 : wr.cell? ⟨gb124, 3, none⟩ = some (.slice A0_3 l0_3.length c0_3) := (blk_cell BK124.out 3).trans rfl
                    have hcz18_4 : wr.cell? ⟨gb124, 4, none⟩ = some (.slice A0_4 l0_4.length c0_4) := (blk_cell BK124.out 4).trans rfl
                    have hfz18_0 := blk_frozen BK124.out 0
                    have hfz18_1 := blk_frozen BK124.out 1
                    have hfz18_2 := blk_frozen BK124.out 2
                    have hfz18_3 := blk_frozen BK124.out 3
                    have hfz18_4 := blk_frozen BK124.out 4
                    have p127 : 0 ≤ (x4_1 : Int) := of_decide_eq_true (by first | (with_reducible assumption))
                    have q127 : x4_1 < (l0_1.length : Int) := of_decide_eq_true (by first | (with_reducible assumption))
                    obtain ⟨ad127, e127, hx127_0, hx127_1⟩ := at_T111 HR0_1.out x4_1 p127 q127
                    cases e127
                    replace hx127_0 := (HB.out.cell (World.block_lt_of_cell? w _ hx127_0)).trans hx127_0
                    replace hx127_1 := (HB.out.cell (World.block_lt_of_cell? w _ hx127_1)).trans hx127_1
                    replace p127 := eq_true p127
                    replace q127 := eq_true q127
                    go_wp2_with (first | ((with_reducible refine gate_dst (N := 5) rfl ?_); refine box_event ?hg (N := 5) ?hd (cs := #[.string (⟨#[]⟩ : ByteArray), .int .i64 0]) (t := 111) ?hr ?_; (case hd => rfl); (case hg => rfl); (case hr => first | (go_simp; done)); intro gb128 hg w19 hbox hb; have n0_ := Aside0.mk (Kd.R_below (Kd.R_elderB HO_127001.out gb128 (Nat.le_of_eq hg.symm)) hb); have n1_ := Aside0.mk (blk_below BK124.out hb); have n2_ := Aside0.mk (blk_below BK125.out hb); have n3_ := Aside0.mk (blk_below BK126.out hb); have n4_ := Aside0.mk (below_step HB.out hb); have n5_ := Aside0.mk (hbox); have n6_ := Aside0.mk ((by rw [hg]; exact (below_size HB.out) : w.heap.size ≤ gb128)); have n7_ := Aside0.mk ((by rw [hg]; exact (below_size HB.out) : w.heap.size ≤ gb128)); have n8_ := Aside0.mk ((by rw [hg]; exact Nat.ne_of_lt (blk_lt BK124.out) : gb124 ≠ gb128)); have n9_ := Aside0.mk ((by rw [hg]; exact Nat.ne_of_gt (blk_lt BK124.out) : gb128 ≠ gb124)); have n10_ := Aside0.mk ((by rw [hg]; exact Nat.ne_of_lt (blk_lt BK125.out) : gb125 ≠ gb128)); have n11_ := Aside0.mk ((by rw [hg]; exact Nat.ne_of_gt (blk_lt BK125.out) : gb128 ≠ gb125)); have n12_ := Aside0.mk ((by rw [hg]; exact Nat.ne_of_lt (blk_lt BK126.out) : gb126 ≠ gb128)); have n13_ := Aside0.mk ((by rw [hg]; exact Nat.ne_of_gt (blk_lt BK126.out) : gb128 ≠ gb126)); clear HO_127001; clear BK124; clear BK125; clear BK126; clear HB; have HO_127001 := n0_; have BK124 := n1_; have BK125 := n2_; have BK126 := n3_; have HB := n4_; have BK128 := n5_; have GW128 := n6_; have GE128 := n7_; have NB124_128 := n8_; have NB128_124 := n9_; have NB125_128 := n10_; have NB128_125 := n11_; have NB126_128 := n12_; have NB128_126 := n13_; clear n0_ n1_ n2_ n3_ n4_ n5_ n6_ n7_ n8_ n9_ n10_ n11_ n12_ n13_; clear hb hbox hg; have hnb20 := NB128_124.out; have hnc20 := NB124_128.out; have hnb21 := NB128_125.out; have hnc21 := NB125_128.out; have hnb22 := NB128_126.out; have hnc22 := NB126_128.out; have hcz23_0 : w19.cell? ⟨gb128, 0, none⟩ = some (.string (⟨#[]⟩ : ByteArray)) := (blk_cell BK128.out 0).trans rfl; have hcz23_1 : w19.cell? ⟨gb128, 1, none⟩ = some (.int .i64 0) := (blk_cell BK128.out 1).trans rfl; have hfz23_0 := blk_frozen BK128.out 0; have hfz23_1 := blk_frozen BK128.out 1; have hnb24 := NB126_125.out; have hnc24 := NB125_126.out; have hcz25_0 : w19.cell? ⟨gb126, 0, none⟩ = some (.slice none 0 0) := (blk_cell BK126.out 0).trans rfl; have hcz25_1 : w19.cell? ⟨gb126, 1, none⟩ = some (u127001) := (blk_cell BK126.out 1).trans rfl; have hcz25_2 : w19.cell? ⟨gb126, 2, none⟩ = some (.slice none 0 0) := (blk_cell BK126.out 2).trans rfl; have hcz25_3 : w19.cell? ⟨gb126, 3, none⟩ = some (.slice none 0 0) := (blk_cell BK126.out 3).trans rfl; have hcz25_4 : w19.cell? ⟨gb126, 4, none⟩ = some (.slice none 0 0) := (blk_cell BK126.out 4).trans rfl; have hfz25_0 := blk_frozen BK126.out 0; have hfz25_1 := blk_frozen BK126.out 1; have hfz25_2 := blk_frozen BK126.out 2; have hfz25_3 := blk_frozen BK126.out 3; have hfz25_4 := blk_frozen BK126.out 4) | ((with_reducible refine gate_builtin (b := .append) (xs := #[.tmp 34, .tmp 36]) rfl ?_); at_builtin; refine Kd.R_append k111 (w0 := w) w.heap.size rfl (.tmp 34) (.tmp 36) 23 111 (.agg #[(.string ⟨#[]⟩), (.int .i64 0)]) 24 rfl Tryd.underlying23 info111 rfl (by decide) (by omega) u127001 x127001_1 (⟨((rd_T111 l0_1 x4_1).f0).extract 0 ((ji12) : Int).toNat, (rd_T111 l0_1 x4_1).f1⟩ : S111) [.string (((rd_T111 l0_1 x4_1).f0).extract 0 ((ji12) : Int).toNat), .int .i64 ((rd_T111 l0_1 x4_1).f1)] (fun k_ => k_ ≠ gb128) (fun _ => False) rfl (by first | (go_simp; done)) ?aP (fun _ hk => hk.elim) ?aF ?aO ?aB ?aS ?aL ?_; (case aP => exact k111_mkM _ _ _ (⟨((rd_T111 l0_1 x4_1).f0).extract 0 ((ji12) : Int).toNat, (rd_T111 l0_1 x4_1).f1⟩ : S111)); (case aB => exact (by repeat (first | (with_reducible first | exact HB.out | refine below_set ?_ GE128.out)))); (case aF => exact (fun k_ hk => Kd.freshB (g := gb128) (o := .cells #[.string (((rd_T111 l0_1 x4_1).f0).extract 0 ((ji12) : Int).toNat), .int .i64 ((rd_T111 l0_1 x4_1).f1)] 111 (0, 0)) (by refine blk_put (cs := #[.string ((rd_T111 l0_1 x4_1).f0), .int .i64 ((rd_T111 l0_1 x4_1).f1)]) ?_ 0 _ rfl; refine blk_put (cs := #[.string ((rd_T111 l0_1 x4_1).f0), .int .i64 0]) ?_ 1 _ rfl; refine blk_put (cs := #[.string (⟨#[]⟩ : ByteArray), .int .i64 0]) ?_ 0 _ rfl; exact BK128.out) k_ hk)); (case aO => exact (by exact Kd.R_mono (Kd.R_far (p := ⟨gb128, 0, none⟩) (Kd.R_far (p := ⟨gb128, 1, none⟩) (Kd.R_far (p := ⟨gb128, 0, none⟩) (Kd.R_mono HO_127001.out (fun k_ hk => (⟨hk, hk.2⟩ : _ ∧ k_ ≠ gb128))) (fun _ hk => hk.2) (.string ((rd_T111 l0_1 x4_1).f0))) (fun _ hk => hk.2) (.int .i64 ((rd_T111 l0_1 x4_1).f1))) (fun _ hk => hk.2) (.string (((rd_T111 l0_1 x4_1).f0).extract 0 ((ji12) : Int).toNat))) (fun _ hk => hk.1.2))); (case aS => exact (below_size (by repeat (first | (with_reducible first | exact HB.out | refine below_set ?_ GE128.out))))); (case aL => have := LMc15.out; omega); intro v130 w26 ho hb hg hat; rw [← Ny129.out] at ho; have n0_ := Aside0.mk (blk_grown (g := gb124) (o := .cells #[.slice A0_0 l0_0.length c0_0, .slice (some ad127) l0_1.length c0_1, .slice A0_2 l0_2.length c0_2, .slice A0_3 l0_3.length c0_3, .slice A0_4 l0_4.length c0_4] 27 (0, 0)) (by refine blk_far ?_ NB124_128.out _; refine blk_far ?_ NB124_128.out _; refine blk_far ?_ NB124_128.out _; exact BK124.out) hg (Kd.R_ne HO_127001.out BK124.out (by decide))); have n1_ := Aside0.mk (blk_grown (g := gb125) (o := .cells #[.slice none 0 0, .slice none 0 0, .slice none 0 0, .slice none 0 0, .slice none 0 0] 27 (0, 0)) (by refine blk_far ?_ NB125_128.out _; refine blk_far ?_ NB125_128.out _; refine blk_far ?_ NB125_128.out _; exact BK125.out) hg (Kd.R_ne HO_127001.out BK125.out (by decide))); have n2_ := Aside0.mk (blk_grown (g := gb126) (o := .cells #[.slice none 0 0, u127001, .slice none 0 0, .slice none 0 0, .slice none 0 0] 27 (0, 0)) (by refine blk_far ?_ NB126_128.out _; refine blk_far ?_ NB126_128.out _; refine blk_far ?_ NB126_128.out _; exact BK126.out) hg (Kd.R_ne HO_127001.out BK126.out (by decide))); have n3_ := Aside0.mk (blk_grown (g := gb128) (o := .cells #[.string (((rd_T111 l0_1 x4_1).f0).extract 0 ((ji12) : Int).toNat), .int .i64 ((rd_T111 l0_1 x4_1).f1)] 111 (0, 0)) (by refine blk_put (cs := #[.string ((rd_T111 l0_1 x4_1).f0), .int .i64 ((rd_T111 l0_1 x4_1).f1)]) ?_ 0 _ rfl; refine blk_put (cs := #[.string ((rd_T111 l0_1 x4_1).f0), .int .i64 0]) ?_ 1 _ rfl; refine blk_put (cs := #[.string (⟨#[]⟩ : ByteArray), .int .i64 0]) ?_ 0 _ rfl; exact BK128.out) hg (Kd.R_away HO_127001.out (fun _ hk => hk.2))); have n4_ := Aside0.mk (hb); have n5_ := Aside0.mk (ho); clear BK124; clear BK125; clear BK126; clear BK128; clear HB; clear HO_127001; have BK124 := n0_; have BK125 := n1_; have BK126 := n2_; have BK128 := n3_; have HB := n4_; have HO131 := n5_; clear n0_ n1_ n2_ n3_ n4_ n5_; clear ho hb hg hat; obtain ⟨Ao27, co27, eo27⟩ := Kd.R_slice HO131.out; subst eo27; have hcz28_0 : w26.cell? ⟨gb126, 0, none⟩ = some (.slice none 0 0) := (blk_cell BK126.out 0).trans rfl; have hcz28_1 : w26.cell? ⟨gb126, 1, none⟩ = some (u127001) := (blk_cell BK126.out 1).trans rfl; have hcz28_2 : w26.cell? ⟨gb126, 2, none⟩ = some (.slice none 0 0) := (blk_cell BK126.out 2).trans rfl; have hcz28_3 : w26.cell? ⟨gb126, 3, none⟩ = some (.slice none 0 0) := (blk_cell BK126.out 3).trans rfl; have hcz28_4 : w26.cell? ⟨gb126, 4, none⟩ = some (.slice none 0 0) := (blk_cell BK126.out 4).trans rfl; have hfz28_0 := blk_frozen BK126.out 0; have hfz28_1 := blk_frozen BK126.out 1; have hfz28_2 := blk_frozen BK126.out 2; have hfz28_3 := blk_frozen BK126.out 3; have hfz28_4 := blk_frozen BK126.out 4))
                    go_roundg k1
                    case measure => have := HK1.out; omega
                    case rel => exact ⟨(wrap64 (x4_1 + 1)), (y129), (.slice Ao27 y129.length co27), rfl, H', ⟨by have := HK1.out; omega⟩, ⟨by exact Kd.R_mono (Kd.R_far (p := ⟨gb126, 1, none⟩) (Kd.R_types HO131.out BK126.out (by decide)) (fun _ hk => hk.2) (.slice Ao27 y129.length co27)) (fun _ hk => trivial)⟩, ⟨by refine blk_far ?_ NB124_126.out _; exact BK124.out⟩, ⟨by refine blk_far ?_ NB125_126.out _; exact BK125.out⟩, ⟨by refine blk_put (cs := #[.slice none 0 0, u127001, .slice none 0 0, .slice none 0 0, .slice none 0 0]) ?_ 1 _ rfl; exact BK126.out⟩, ⟨by repeat (first | (with_reducible first | exact HB.out | refine below_set ?_ GE126.out))⟩⟩
                  · rw [if_neg c15] at H
                    exact absurd H (by simp)
                · rw [if_neg c14] at H
                  exact absurd H (by simp)
              · rw [if_neg c13] at H
                exact absurd H (by simp)
            · rw [if_neg c11] at H
              exact absurd H (by simp)
          · rw [if_neg c10] at H
            have c10b0 : decide (x4_1 < 20) = false := decide_eq_false c10
            clear c10
            have H' := Aside0.mk H
            clear H
            have hnb29 := NB124_125.out
            have hnc29 := NB125_124.out
            have hnb30 := NB124_126.out
            have hnc30 := NB126_124.out
            have hcz31_0 : wr.cell? ⟨gb124, 0, none⟩ = some (.slice A0_0 l0_0.length c0_0) := (blk_cell BK124.out 0).trans rfl
            have hcz31_1 : wr.cell? ⟨gb124, 1, none⟩ = some (.slice A0_1 l0_1.length c0_1) := (blk_cell BK124.out 1).trans rfl
            have hcz31_2 : wr.cell? ⟨gb124, 2, none⟩ = some (.slice A0_2 l0_2.length c0_2) := (blk_cell BK124.out 2).trans rfl
            have hcz31_3 : wr.cell? ⟨gb124, 3, none⟩ = some (.slice A0_3 l0_3.length c0_3) := (blk_cell BK124.out 3).trans rfl
            have hcz31_4 : wr.cell? ⟨gb124, 4, none⟩ = some (.slice A0_4 l0_4.length c0_4) := (blk_cell BK124.out 4).trans rfl
            have hfz31_0 := blk_frozen BK124.out 0
            have hfz31_1 := blk_frozen BK124.out 1
            have hfz31_2 := blk_frozen BK124.out 2
            have hfz31_3 := blk_frozen BK124.out 3
            have hfz31_4 := blk_frozen BK124.out 4
            go_wp2
            go_meet
            case rel => exact ⟨_, (x127001_1), (u127001), H', ⟨by have := HK1.out; first | omega⟩, ⟨by exact HO_127001.out⟩, ⟨by exact BK124.out⟩, ⟨by exact BK125.out⟩, ⟨by exact BK126.out⟩, ⟨by exact HB.out⟩⟩
        · rw [if_neg c9] at H
          have c9b0 : decide (x4_1 < (l0_1.length : Int)) = false := decide_eq_false c9
          clear c9
          (first | skip)
          have H' := Aside0.mk H
          clear H
          have hnb32 := NB124_125.out
          have hnc32 := NB125_124.out
          have hnb33 := NB124_126.out
          have hnc33 := NB126_124.out
          have hcz34_0 : wr.cell? ⟨gb124, 0, none⟩ = some (.slice A0_0 l0_0.length c0_0) := (blk_cell BK124.out 0).trans rfl
          have hcz34_1 : wr.cell? ⟨gb124, 1, none⟩ = some (.slice A0_1 l0_1.length c0_1) := (blk_cell BK124.out 1).trans rfl
          have hcz34_2 : wr.cell? ⟨gb124, 2, none⟩ = some (.slice A0_2 l0_2.length c0_2) := (blk_cell BK124.out 2).trans rfl
          have hcz34_3 : wr.cell? ⟨gb124, 3, none⟩ = some (.slice A0_3 l0_3.length c0_3) := (blk_cell BK124.out 3).trans rfl
          have hcz34_4 : wr.cell? ⟨gb124, 4, none⟩ = some (.slice A0_4 l0_4.length c0_4) := (blk_cell BK124.out 4).trans rfl
          have hfz34_0 := blk_frozen BK124.out 0
          have hfz34_1 := blk_frozen BK124.out 1
          have hfz34_2 := blk_frozen BK124.out 2
          have hfz34_3 := blk_frozen BK124.out 3
          have hfz34_4 := blk_frozen BK124.out 4
          go_wp2
          go_meet
          case rel => exact ⟨_, (x127001_1), (u127001), H', ⟨by have := HK1.out; first | omega⟩, ⟨by exact HO_127001.out⟩, ⟨by exact BK124.out⟩, ⟨by exact BK125.out⟩, ⟨by exact BK126.out⟩, ⟨by exact HB.out⟩⟩
  case rest =>
    clear HC2
    try clear c1
    try clear p1
    try clear q1
    try clear hx1
    try clear c2
    try clear p2
    try clear c3
    try clear c6
    try clear p6
    try clear c7
    try clear c9
    try clear c9b0
    try clear c10
    try clear c10b0
    try clear c11
    try clear c11b0
    try clear p12
    try clear q12
    try clear hx12
    try clear c13
    try clear c13b0
    try clear c13b1
    try clear c14
    try clear c14b0
    try clear c14b1
    try clear c15
    try clear c16
    try clear c17
    try clear c20
    try clear c21
    try clear c22
    try clear c24
    try clear c29
    try clear c30
    try clear c32
    try clear c33
    try clear hcz18_0
    try clear hcz18_1
    try clear hcz18_2
    try clear hcz18_3
    try clear hcz18_4
    try clear hcz23_0
    try clear hcz23_1
    try clear hcz25_0
    try clear hcz25_1
    try clear hcz25_2
    try clear hcz25_3
    try clear hcz25_4
    try clear hcz28_0
    try clear hcz28_1
    try clear hcz28_2
    try clear hcz28_3
    try clear hcz28_4
    try clear hcz31_0
    try clear hcz31_1
    try clear hcz31_2
    try clear hcz31_3
    try clear hcz31_4
    try clear hcz34_0
    try clear hcz34_1
    try clear hcz34_2
    try clear hcz34_3
    try clear hcz34_4
    try clear hcz8_0
    try clear hcz8_1
    try clear hcz8_2
    try clear hcz8_3
    try clear hcz8_4
    try clear hfz18_0
    try clear hfz18_1
    try clear hfz18_2
    try clear hfz18_3
    try clear hfz18_4
    try clear hfz23_0
    try clear hfz23_1
    try clear hfz25_0
    try clear hfz25_1
    try clear hfz25_2
    try clear hfz25_3
    try clear hfz25_4
    try clear hfz28_0
    try clear hfz28_1
    try clear hfz28_2
    try clear hfz28_3
    try clear hfz28_4
    try clear hfz31_0
    try clear hfz31_1
    try clear hfz31_2
    try clear hfz31_3
    try clear hfz31_4
    try clear hfz34_0
    try clear hfz34_1
    try clear hfz34_2
    try clear hfz34_3
    try clear hfz34_4
    try clear hfz8_0
    try clear hfz8_1
    try clear hfz8_2
    try clear hfz8_3
    try clear hfz8_4
    try clear hx127_0
    try clear hx127_1
    try clear p127
    try clear p2
    try clear q127
    obtain ⟨kq, x127001_1, u127001, HA, HJ1, HO_127001, BK124, BK125, BK126, HB⟩ := hcut
    cases kq with
    | zero => exact absurd HA.out (by simp [proofmarkref27_Few.j1])
    | succ kj1 =>
      have H := HA.out
      clear HA
      simp only [proofmarkref27_Few.j1] at H
      have H' := Aside0.mk H
      clear H
      go_wp2
      try simp only [Act.put, List.setIfInBounds_toArray, List.set_cons_succ, List.set_cons_zero]
      go_loopg [6] kj1 (fun kq v6 w' => ∃ (x6_2 : Int) (x127002_2 : List (S94)) (u127002 : Value), v6 = .int .i64 x6_2 ∧ Aside0 (proofmarkref27_Few.l1 kq x6_2 l0_0 l0_1 l0_2 l0_3 l0_4 x127001_1 x127002_2 = some (r1, r2, r3, r4, r5)) ∧ Aside0 (kq ≤ kj1) ∧ Aside0 (Kd.R k111 111 w' w.heap.size (fun _ => True) u127001 x127001_1) ∧ Aside0 (Kd.R k94 94 w' w.heap.size (fun _ => True) u127002 x127002_2) ∧ Aside0 (w'.heap[gb124]? = some (.cells #[(.slice A0_0 l0_0.length c0_0), (.slice A0_1 l0_1.length c0_1), (.slice A0_2 l0_2.length c0_2), (.slice A0_3 l0_3.length c0_3), (.slice A0_4 l0_4.length c0_4)] 27 (0, 0))) ∧ Aside0 (w'.heap[gb125]? = some (.cells #[(.slice none 0 0), (.slice none 0 0), (.slice none 0 0), (.slice none 0 0), (.slice none 0 0)] 27 (0, 0))) ∧ Aside0 (w'.heap[gb126]? = some (.cells #[(.slice none 0 0), u127001, u127002, (.slice none 0 0), (.slice none 0 0)] 27 (0, 0))) ∧ Aside0 (Below w.heap.size w w'))
      case atStart => exact ⟨(0), (([] : List (S94))), (.slice none 0 0), rfl, H', ⟨Nat.le_refl _⟩, ⟨by exact HO_127001.out⟩, ⟨by first | exact Kd.R_nil _ _ _ _ _⟩, ⟨by exact BK124.out⟩, ⟨by exact BK125.out⟩, ⟨by exact BK126.out⟩, ⟨by exact HB.out⟩⟩
      case round =>
        clear H'
        try clear c1
        try clear p1
        try clear q1
        try clear hx1
        try clear c2
        try clear p2
        try clear c3
        try clear c6
        try clear p6
        try clear c7
        try clear c9
        try clear c9b0
        try clear c10
        try clear c10b0
        try clear c11
        try clear c11b0
        try clear p12
        try clear q12
        try clear hx12
        try clear c13
        try clear c13b0
        try clear c13b1
        try clear c14
        try clear c14b0
        try clear c14b1
        try clear c15
        try clear c16
        try clear c17
        try clear c20
        try clear c21
        try clear c22
        try clear c24
        try clear c29
        try clear c30
        try clear c32
        try clear c33
        try clear hcz18_0
        try clear hcz18_1
        try clear hcz18_2
        try clear hcz18_3
        try clear hcz18_4
        try clear hcz23_0
        try clear hcz23_1
        try clear hcz25_0
        try clear hcz25_1
        try clear hcz25_2
        try clear hcz25_3
        try clear hcz25_4
        try clear hcz28_0
        try clear hcz28_1
        try clear hcz28_2
        try clear hcz28_3
        try clear hcz28_4
        try clear hcz31_0
        try clear hcz31_1
        try clear hcz31_2
        try clear hcz31_3
        try clear hcz31_4
        try clear hcz34_0
        try clear hcz34_1
        try clear hcz34_2
        try clear hcz34_3
        try clear hcz34_4
        try clear hcz8_0
        try clear hcz8_1
        try clear hcz8_2
        try clear hcz8_3
        try clear hcz8_4
        try clear hfz18_0
        try clear hfz18_1
        try clear hfz18_2
        try clear hfz18_3
        try clear hfz18_4
        try clear hfz23_0
        try clear hfz23_1
        try clear hfz25_0
        try clear hfz25_1
        try clear hfz25_2
        try clear hfz25_3
        try clear hfz25_4
        try clear hfz28_0
        try clear hfz28_1
        try clear hfz28_2
        try clear hfz28_3
        try clear hfz28_4
        try clear hfz31_0
        try clear hfz31_1
        try clear hfz31_2
        try clear hfz31_3
        try clear hfz31_4
        try clear hfz34_0
        try clear hfz34_1
        try clear hfz34_2
        try clear hfz34_3
        try clear hfz34_4
        try clear hfz8_0
        try clear hfz8_1
        try clear hfz8_2
        try clear hfz8_3
        try clear hfz8_4
        try clear hx127_0
        try clear hx127_1
        try clear p1
        try clear p12
        try clear p127
        try clear p2
        try clear p6
        try clear q1
        try clear q12
        try clear q127
        obtain ⟨x6_2, x127002_2, u127002, rfl, HA, HK2, HO_127001, HO_127002, BK124, BK125, BK126, HB⟩ := hrel
        cases gk with
        | zero => exact absurd HA.out (by simp [proofmarkref27_Few.l1])
        | succ k2 =>
          have H := HA.out
          clear HA
          simp only [proofmarkref27_Few.l1] at H
          by_cases c35 : x6_2 < (l0_2.length : Int)
          · rw [if_pos c35] at H
            have c35b0 : decide (x6_2 < (l0_2.length : Int)) = true := decide_eq_true c35
            clear c35
            by_cases c36 : x6_2 < 20
            · rw [if_pos c36] at H
              have c36b0 : decide (x6_2 < 20) = true := decide_eq_true c36
              clear c36
              by_cases c37 : 0 ≤ x6_2
              · rw [if_pos c37] at H
                have c37b0 : decide (0 ≤ x6_2) = true := decide_eq_true c37
                clear c37
                obtain ⟨ji38, hji38⟩ : ∃ j_ : Int, (mn (((rd_T94 l0_2 x6_2).f0).size : Int) 12) = j_ := ⟨_, rfl⟩
                replace H : (if 0 ≤ (ji38) then (if (ji38) ≤ (((rd_T94 l0_2 x6_2).f0).size : Int) then (if x127002_2.length < 3518437208883 then (proofmarkref27_Few.l1 k2 (wrap64 (x6_2 + 1)) l0_0 l0_1 l0_2 l0_3 l0_4 x127001_1 (x127002_2 ++ [(⟨((rd_T94 l0_2 x6_2).f0).extract 0 ((ji38) : Int).toNat, (rd_T94 l0_2 x6_2).f1, (rd_T94 l0_2 x6_2).f2, (rd_T94 l0_2 x6_2).f3⟩ : S94)])) else (none)) else (none)) else (none)) = some (r1, r2, r3, r4, r5) := by first | (rw [hji38] at H; exact H)
                have hji38_ : (if 12 < (((rd_T94 l0_2 x6_2).f0).size : Int) then 12 else (((rd_T94 l0_2 x6_2).f0).size : Int)) = ji38 := hji38
                by_cases c39 : 0 ≤ (ji38)
                · rw [if_pos c39] at H
                  have c39b0 := eq_true c39
                  have c39b1 : decide (0 ≤ (ji38)) = true := decide_eq_true c39
                  clear c39
                  by_cases c40 : (ji38) ≤ (((rd_T94 l0_2 x6_2).f0).size : Int)
                  · rw [if_pos c40] at H
                    have c40b0 := eq_true c40
                    have c40b1 : decide ((ji38) ≤ (((rd_T94 l0_2 x6_2).f0).size : Int)) = true := decide_eq_true c40
                    clear c40
                    by_cases c41 : x127002_2.length < 3518437208883
                    · rw [if_pos c41] at H
                      have LMc41 := Aside0.mk c41
                      clear c41
                      obtain ⟨y134, hy134⟩ : ∃ y_ : List (S94), y_ = (x127002_2 ++ [(⟨((rd_T94 l0_2 x6_2).f0).extract 0 ((ji38) : Int).toNat, (rd_T94 l0_2 x6_2).f1, (rd_T94 l0_2 x6_2).f2, (rd_T94 l0_2 x6_2).f3⟩ : S94)]) := ⟨_, rfl⟩
                      replace H : (proofmarkref27_Few.l1 k2 (wrap64 (x6_2 + 1)) l0_0 l0_1 l0_2 l0_3 l0_4 x127001_1 y134) = some (r1, r2, r3, r4, r5) := by first | (rw [hy134]; with_reducible exact H)
                      have Ny134 := Aside0.mk hy134
                      clear hy134
                      have H' := Aside0.mk H
                      clear H
                      have hnb42 := NB124_125.out
                      have hnc42 := NB125_124.out
                      have hnb43 := NB124_126.out
                      have hnc43 := NB126_124.out
                      have hcz44_0 : wr.cell? ⟨gb124, 0, none⟩ = some (.slice A0_0 l0_0.length c0_0) := (blk_cell BK124.out 0).trans rfl
                      have hcz44_1 : wr.cell? ⟨gb124, 1, none⟩ = some (.slice A0_1 l0_1.length c0_1) := (blk_cell BK124.out 1).trans rfl
                      have hcz44_2 : wr.cell? ⟨gb124, 2, none⟩ = some (.slice A0_2 l0_2.length c0_2) := (blk_cell BK124.out 2).trans rfl
                      have hcz44_3 : wr.cell? ⟨gb124, 3, none⟩ = some (.slice A0_3 l0_3.length c0_3) := (blk_cell BK124.out 3).trans rfl
                      have hcz44_4 : wr.cell? ⟨gb124, 4, none⟩ = some (.slice A0_4 l0_4.length c0_4) := (blk_cell BK124.out 4).trans rfl
                      have hfz44_0 := blk_frozen BK124.out 0
                      have hfz44_1 := blk_frozen BK124.out 1
                      have hfz44_2 := blk_frozen BK124.out 2
                      have hfz44_3 := blk_frozen BK124.out 3
                      have hfz44_4 := blk_frozen BK124.out 4
                      have p132 : 0 ≤ (x6_2 : Int) := of_decide_eq_true (by first | (with_reducible assumption))
                      have q132 : x6_2 < (l0_2.length : Int) := of_decide_eq_true (by first | (with_reducible assumption))
                      obtain ⟨ad132, e132, hx132_0, hx132_1, hx132_2, hx132_3⟩ := at_T94 HR0_2.out x6_2 p132 q132
                      cases e132
                      replace hx132_0 := (HB.out.cell (World.block_lt_of_cell? w _ hx132_0)).trans hx132_0
                      replace hx132_1 := (HB.out.cell (World.block_lt_of_cell? w _ hx132_1)).trans hx132_1
                      replace hx132_2 := (HB.out.cell (World.block_lt_of_cell? w _ hx132_2)).trans hx132_2
                      replace hx132_3 := (HB.out.cell (World.block_lt_of_cell? w _ hx132_3)).trans hx132_3
                      replace p132 := eq_true p132
                      replace q132 := eq_true q132
                      go_wp2_with (first | ((with_reducible refine gate_dst (N := 7) rfl ?_); refine box_event ?hg (N := 7) ?hd (cs := #[.string (⟨#[]⟩ : ByteArray), .int .i64 0, .int .i64 0, .int .i64 0]) (t := 94) ?hr ?_; (case hd => rfl); (case hg => rfl); (case hr => first | (go_simp; done)); intro gb133 hg w45 hbox hb; have n0_ := Aside0.mk (Kd.R_below HO_127001.out hb); have n1_ := Aside0.mk (Kd.R_below (Kd.R_elderB HO_127002.out gb133 (Nat.le_of_eq hg.symm)) hb); have n2_ := Aside0.mk (blk_below BK124.out hb); have n3_ := Aside0.mk (blk_below BK125.out hb); have n4_ := Aside0.mk (blk_below BK126.out hb); have n5_ := Aside0.mk (below_step HB.out hb); have n6_ := Aside0.mk (hbox); have n7_ := Aside0.mk ((by rw [hg]; exact (below_size HB.out) : w.heap.size ≤ gb133)); have n8_ := Aside0.mk ((by rw [hg]; exact (below_size HB.out) : w.heap.size ≤ gb133)); have n9_ := Aside0.mk ((by rw [hg]; exact Nat.ne_of_lt (blk_lt BK124.out) : gb124 ≠ gb133)); have n10_ := Aside0.mk ((by rw [hg]; exact Nat.ne_of_gt (blk_lt BK124.out) : gb133 ≠ gb124)); have n11_ := Aside0.mk ((by rw [hg]; exact Nat.ne_of_lt (blk_lt BK125.out) : gb125 ≠ gb133)); have n12_ := Aside0.mk ((by rw [hg]; exact Nat.ne_of_gt (blk_lt BK125.out) : gb133 ≠ gb125)); have n13_ := Aside0.mk ((by rw [hg]; exact Nat.ne_of_lt (blk_lt BK126.out) : gb126 ≠ gb133)); have n14_ := Aside0.mk ((by rw [hg]; exact Nat.ne_of_gt (blk_lt BK126.out) : gb133 ≠ gb126)); clear HO_127001; clear HO_127002; clear BK124; clear BK125; clear BK126; clear HB; have HO_127001 := n0_; have HO_127002 := n1_; have BK124 := n2_; have BK125 := n3_; have BK126 := n4_; have HB := n5_; have BK133 := n6_; have GW133 := n7_; have GE133 := n8_; have NB124_133 := n9_; have NB133_124 := n10_; have NB125_133 := n11_; have NB133_125 := n12_; have NB126_133 := n13_; have NB133_126 := n14_; clear n0_ n1_ n2_ n3_ n4_ n5_ n6_ n7_ n8_ n9_ n10_ n11_ n12_ n13_ n14_; clear hb hbox hg; have hnb46 := NB133_124.out; have hnc46 := NB124_133.out; have hnb47 := NB133_125.out; have hnc47 := NB125_133.out; have hnb48 := NB133_126.out; have hnc48 := NB126_133.out; have hcz49_0 : w45.cell? ⟨gb133, 0, none⟩ = some (.string (⟨#[]⟩ : ByteArray)) := (blk_cell BK133.out 0).trans rfl; have hcz49_1 : w45.cell? ⟨gb133, 1, none⟩ = some (.int .i64 0) := (blk_cell BK133.out 1).trans rfl; have hcz49_2 : w45.cell? ⟨gb133, 2, none⟩ = some (.int .i64 0) := (blk_cell BK133.out 2).trans rfl; have hcz49_3 : w45.cell? ⟨gb133, 3, none⟩ = some (.int .i64 0) := (blk_cell BK133.out 3).trans rfl; have hfz49_0 := blk_frozen BK133.out 0; have hfz49_1 := blk_frozen BK133.out 1; have hfz49_2 := blk_frozen BK133.out 2; have hfz49_3 := blk_frozen BK133.out 3; have hnb50 := NB126_125.out; have hnc50 := NB125_126.out; have hcz51_0 : w45.cell? ⟨gb126, 0, none⟩ = some (.slice none 0 0) := (blk_cell BK126.out 0).trans rfl; have hcz51_1 : w45.cell? ⟨gb126, 1, none⟩ = some (u127001) := (blk_cell BK126.out 1).trans rfl; have hcz51_2 : w45.cell? ⟨gb126, 2, none⟩ = some (u127002) := (blk_cell BK126.out 2).trans rfl; have hcz51_3 : w45.cell? ⟨gb126, 3, none⟩ = some (.slice none 0 0) := (blk_cell BK126.out 3).trans rfl; have hcz51_4 : w45.cell? ⟨gb126, 4, none⟩ = some (.slice none 0 0) := (blk_cell BK126.out 4).trans rfl; have hfz51_0 := blk_frozen BK126.out 0; have hfz51_1 := blk_frozen BK126.out 1; have hfz51_2 := blk_frozen BK126.out 2; have hfz51_3 := blk_frozen BK126.out 3; have hfz51_4 := blk_frozen BK126.out 4) | ((with_reducible refine gate_builtin (b := .append) (xs := #[.tmp 64, .tmp 66]) rfl ?_); at_builtin; refine Kd.R_append k94 (w0 := w) w.heap.size rfl (.tmp 64) (.tmp 66) 24 94 (.agg #[(.string ⟨#[]⟩), (.int .i64 0), (.int .i64 0), (.int .i64 0)]) 40 rfl Tryd.underlying24 info94 rfl (by decide) (by omega) u127002 x127002_2 (⟨((rd_T94 l0_2 x6_2).f0).extract 0 ((ji38) : Int).toNat, (rd_T94 l0_2 x6_2).f1, (rd_T94 l0_2 x6_2).f2, (rd_T94 l0_2 x6_2).f3⟩ : S94) [.string (((rd_T94 l0_2 x6_2).f0).extract 0 ((ji38) : Int).toNat), .int .i64 ((rd_T94 l0_2 x6_2).f1), .int .i64 ((rd_T94 l0_2 x6_2).f2), .int .i64 ((rd_T94 l0_2 x6_2).f3)] (fun k_ => k_ ≠ gb133) (fun _ => False) rfl (by first | (go_simp; done)) ?aP (fun _ hk => hk.elim) ?aF ?aO ?aB ?aS ?aL ?_; (case aP => exact k94_mkM _ _ _ (⟨((rd_T94 l0_2 x6_2).f0).extract 0 ((ji38) : Int).toNat, (rd_T94 l0_2 x6_2).f1, (rd_T94 l0_2 x6_2).f2, (rd_T94 l0_2 x6_2).f3⟩ : S94)); (case aB => exact (by repeat (first | (with_reducible first | exact HB.out | refine below_set ?_ GE133.out)))); (case aF => exact (fun k_ hk => Kd.freshB (g := gb133) (o := .cells #[.string (((rd_T94 l0_2 x6_2).f0).extract 0 ((ji38) : Int).toNat), .int .i64 ((rd_T94 l0_2 x6_2).f1), .int .i64 ((rd_T94 l0_2 x6_2).f2), .int .i64 ((rd_T94 l0_2 x6_2).f3)] 94 (0, 0)) (by refine blk_put (cs := #[.string ((rd_T94 l0_2 x6_2).f0), .int .i64 ((rd_T94 l0_2 x6_2).f1), .int .i64 ((rd_T94 l0_2 x6_2).f2), .int .i64 ((rd_T94 l0_2 x6_2).f3)]) ?_ 0 _ rfl; refine blk_put (cs := #[.string ((rd_T94 l0_2 x6_2).f0), .int .i64 ((rd_T94 l0_2 x6_2).f1), .int .i64 ((rd_T94 l0_2 x6_2).f2), .int .i64 0]) ?_ 3 _ rfl; refine blk_put (cs := #[.string ((rd_T94 l0_2 x6_2).f0), .int .i64 ((rd_T94 l0_2 x6_2).f1), .int .i64 0, .int .i64 0]) ?_ 2 _ rfl; refine blk_put (cs := #[.string ((rd_T94 l0_2 x6_2).f0), .int .i64 0, .int .i64 0, .int .i64 0]) ?_ 1 _ rfl; refine blk_put (cs := #[.string (⟨#[]⟩ : ByteArray), .int .i64 0, .int .i64 0, .int .i64 0]) ?_ 0 _ rfl; exact BK133.out) k_ hk)); (case aO => exact (by exact Kd.R_mono (Kd.R_far (p := ⟨gb133, 0, none⟩) (Kd.R_far (p := ⟨gb133, 3, none⟩) (Kd.R_far (p := ⟨gb133, 2, none⟩) (Kd.R_far (p := ⟨gb133, 1, none⟩) (Kd.R_far (p := ⟨gb133, 0, none⟩) (Kd.R_mono HO_127002.out (fun k_ hk => (⟨hk, hk.2⟩ : _ ∧ k_ ≠ gb133))) (fun _ hk => hk.2) (.string ((rd_T94 l0_2 x6_2).f0))) (fun _ hk => hk.2) (.int .i64 ((rd_T94 l0_2 x6_2).f1))) (fun _ hk => hk.2) (.int .i64 ((rd_T94 l0_2 x6_2).f2))) (fun _ hk => hk.2) (.int .i64 ((rd_T94 l0_2 x6_2).f3))) (fun _ hk => hk.2) (.string (((rd_T94 l0_2 x6_2).f0).extract 0 ((ji38) : Int).toNat))) (fun _ hk => hk.1.2))); (case aS => exact (below_size (by repeat (first | (with_reducible first | exact HB.out | refine below_set ?_ GE133.out))))); (case aL => have := LMc41.out; omega); intro v135 w52 ho hb hg hat; rw [← Ny134.out] at ho; have n0_ := Aside0.mk (Kd.R_over' (by exact (Kd.R_mono (Kd.R_far (p := ⟨gb133, 0, none⟩) (Kd.R_far (p := ⟨gb133, 3, none⟩) (Kd.R_far (p := ⟨gb133, 2, none⟩) (Kd.R_far (p := ⟨gb133, 1, none⟩) (Kd.R_far (p := ⟨gb133, 0, none⟩) (Kd.R_types HO_127001.out BK133.out (by decide)) (fun _ hk => hk.2) (.string ((rd_T94 l0_2 x6_2).f0))) (fun _ hk => hk.2) (.int .i64 ((rd_T94 l0_2 x6_2).f1))) (fun _ hk => hk.2) (.int .i64 ((rd_T94 l0_2 x6_2).f2))) (fun _ hk => hk.2) (.int .i64 ((rd_T94 l0_2 x6_2).f3))) (fun _ hk => hk.2) (.string (((rd_T94 l0_2 x6_2).f0).extract 0 ((ji38) : Int).toNat))) (fun _ h_ => h_.1))) (Kd.R_typed (by exact (Kd.R_mono (Kd.R_far (p := ⟨gb133, 0, none⟩) (Kd.R_far (p := ⟨gb133, 3, none⟩) (Kd.R_far (p := ⟨gb133, 2, none⟩) (Kd.R_far (p := ⟨gb133, 1, none⟩) (Kd.R_far (p := ⟨gb133, 0, none⟩) (Kd.R_mono HO_127002.out (fun k_ hk => (⟨hk, hk.2⟩ : _ ∧ k_ ≠ gb133))) (fun _ hk => hk.2) (.string ((rd_T94 l0_2 x6_2).f0))) (fun _ hk => hk.2) (.int .i64 ((rd_T94 l0_2 x6_2).f1))) (fun _ hk => hk.2) (.int .i64 ((rd_T94 l0_2 x6_2).f2))) (fun _ hk => hk.2) (.int .i64 ((rd_T94 l0_2 x6_2).f3))) (fun _ hk => hk.2) (.string (((rd_T94 l0_2 x6_2).f0).extract 0 ((ji38) : Int).toNat))) (fun _ h_ => h_.1)))) (by decide) hg); have n1_ := Aside0.mk (blk_grown (g := gb124) (o := .cells #[.slice A0_0 l0_0.length c0_0, .slice A0_1 l0_1.length c0_1, .slice (some ad132) l0_2.length c0_2, .slice A0_3 l0_3.length c0_3, .slice A0_4 l0_4.length c0_4] 27 (0, 0)) (by refine blk_far ?_ NB124_133.out _; refine blk_far ?_ NB124_133.out _; refine blk_far ?_ NB124_133.out _; refine blk_far ?_ NB124_133.out _; refine blk_far ?_ NB124_133.out _; exact BK124.out) hg (Kd.R_ne HO_127002.out BK124.out (by decide))); have n2_ := Aside0.mk (blk_grown (g := gb125) (o := .cells #[.slice none 0 0, .slice none 0 0, .slice none 0 0, .slice none 0 0, .slice none 0 0] 27 (0, 0)) (by refine blk_far ?_ NB125_133.out _; refine blk_far ?_ NB125_133.out _; refine blk_far ?_ NB125_133.out _; refine blk_far ?_ NB125_133.out _; refine blk_far ?_ NB125_133.out _; exact BK125.out) hg (Kd.R_ne HO_127002.out BK125.out (by decide))); have n3_ := Aside0.mk (blk_grown (g := gb126) (o := .cells #[.slice none 0 0, u127001, u127002, .slice none 0 0, .slice none 0 0] 27 (0, 0)) (by refine blk_far ?_ NB126_133.out _; refine blk_far ?_ NB126_133.out _; refine blk_far ?_ NB126_133.out _; refine blk_far ?_ NB126_133.out _; refine blk_far ?_ NB126_133.out _; exact BK126.out) hg (Kd.R_ne HO_127002.out BK126.out (by decide))); have n4_ := Aside0.mk (blk_grown (g := gb133) (o := .cells #[.string (((rd_T94 l0_2 x6_2).f0).extract 0 ((ji38) : Int).toNat), .int .i64 ((rd_T94 l0_2 x6_2).f1), .int .i64 ((rd_T94 l0_2 x6_2).f2), .int .i64 ((rd_T94 l0_2 x6_2).f3)] 94 (0, 0)) (by refine blk_put (cs := #[.string ((rd_T94 l0_2 x6_2).f0), .int .i64 ((rd_T94 l0_2 x6_2).f1), .int .i64 ((rd_T94 l0_2 x6_2).f2), .int .i64 ((rd_T94 l0_2 x6_2).f3)]) ?_ 0 _ rfl; refine blk_put (cs := #[.string ((rd_T94 l0_2 x6_2).f0), .int .i64 ((rd_T94 l0_2 x6_2).f1), .int .i64 ((rd_T94 l0_2 x6_2).f2), .int .i64 0]) ?_ 3 _ rfl; refine blk_put (cs := #[.string ((rd_T94 l0_2 x6_2).f0), .int .i64 ((rd_T94 l0_2 x6_2).f1), .int .i64 0, .int .i64 0]) ?_ 2 _ rfl; refine blk_put (cs := #[.string ((rd_T94 l0_2 x6_2).f0), .int .i64 0, .int .i64 0, .int .i64 0]) ?_ 1 _ rfl; refine blk_put (cs := #[.string (⟨#[]⟩ : ByteArray), .int .i64 0, .int .i64 0, .int .i64 0]) ?_ 0 _ rfl; exact BK133.out) hg (Kd.R_away HO_127002.out (fun _ hk => hk.2))); have n5_ := Aside0.mk (hb); have n6_ := Aside0.mk (ho); clear HO_127001; clear BK124; clear BK125; clear BK126; clear BK133; clear HB; clear HO_127002; have HO_127001 := n0_; have BK124 := n1_; have BK125 := n2_; have BK126 := n3_; have BK133 := n4_; have HB := n5_; have HO136 := n6_; clear n0_ n1_ n2_ n3_ n4_ n5_ n6_; clear ho hb hg hat; obtain ⟨Ao53, co53, eo53⟩ := Kd.R_slice HO136.out; subst eo53; have hcz54_0 : w52.cell? ⟨gb126, 0, none⟩ = some (.slice none 0 0) := (blk_cell BK126.out 0).trans rfl; have hcz54_1 : w52.cell? ⟨gb126, 1, none⟩ = some (u127001) := (blk_cell BK126.out 1).trans rfl; have hcz54_2 : w52.cell? ⟨gb126, 2, none⟩ = some (u127002) := (blk_cell BK126.out 2).trans rfl; have hcz54_3 : w52.cell? ⟨gb126, 3, none⟩ = some (.slice none 0 0) := (blk_cell BK126.out 3).trans rfl; have hcz54_4 : w52.cell? ⟨gb126, 4, none⟩ = some (.slice none 0 0) := (blk_cell BK126.out 4).trans rfl; have hfz54_0 := blk_frozen BK126.out 0; have hfz54_1 := blk_frozen BK126.out 1; have hfz54_2 := blk_frozen BK126.out 2; have hfz54_3 := blk_frozen BK126.out 3; have hfz54_4 := blk_frozen BK126.out 4))
                      go_roundg k2
                      case measure => have := HJ1.out; have := HK2.out; omega
                      case rel => exact ⟨(wrap64 (x6_2 + 1)), (y134), (.slice Ao53 y134.length co53), rfl, H', ⟨by have := HJ1.out; have := HK2.out; omega⟩, ⟨by exact Kd.R_mono (Kd.R_far (p := ⟨gb126, 2, none⟩) (Kd.R_types HO_127001.out BK126.out (by decide)) (fun _ hk => hk.2) (.slice Ao53 y134.length co53)) (fun _ hk => trivial)⟩, ⟨by exact Kd.R_mono (Kd.R_far (p := ⟨gb126, 2, none⟩) (Kd.R_types HO136.out BK126.out (by decide)) (fun _ hk => hk.2) (.slice Ao53 y134.length co53)) (fun _ hk => trivial)⟩, ⟨by refine blk_far ?_ NB124_126.out _; exact BK124.out⟩, ⟨by refine blk_far ?_ NB125_126.out _; exact BK125.out⟩, ⟨by refine blk_put (cs := #[.slice none 0 0, u127001, u127002, .slice none 0 0, .slice none 0 0]) ?_ 2 _ rfl; exact BK126.out⟩, ⟨by repeat (first | (with_reducible first | exact HB.out | refine below_set ?_ GE126.out))⟩⟩
                    · rw [if_neg c41] at H
                      exact absurd H (by simp)
                  · rw [if_neg c40] at H
                    exact absurd H (by simp)
                · rw [if_neg c39] at H
                  exact absurd H (by simp)
              · rw [if_neg c37] at H
                exact absurd H (by simp)
            · rw [if_neg c36] at H
              have c36b0 : decide (x6_2 < 20) = false := decide_eq_false c36
              clear c36
              simp only [Option.some.injEq, Prod.mk.injEq] at H
              obtain ⟨rfl, rfl, rfl, rfl, rfl⟩ := H
              have hnb55 := NB124_125.out
              have hnc55 := NB125_124.out
              have hnb56 := NB124_126.out
              have hnc56 := NB126_124.out
              have hcz57_0 : wr.cell? ⟨gb124, 0, none⟩ = some (.slice A0_0 l0_0.length c0_0) := (blk_cell BK124.out 0).trans rfl
              have hcz57_1 : wr.cell? ⟨gb124, 1, none⟩ = some (.slice A0_1 l0_1.length c0_1) := (blk_cell BK124.out 1).trans rfl
              have hcz57_2 : wr.cell? ⟨gb124, 2, none⟩ = some (.slice A0_2 l0_2.length c0_2) := (blk_cell BK124.out 2).trans rfl
              have hcz57_3 : wr.cell? ⟨gb124, 3, none⟩ = some (.slice A0_3 l0_3.length c0_3) := (blk_cell BK124.out 3).trans rfl
              have hcz57_4 : wr.cell? ⟨gb124, 4, none⟩ = some (.slice A0_4 l0_4.length c0_4) := (blk_cell BK124.out 4).trans rfl
              have hfz57_0 := blk_frozen BK124.out 0
              have hfz57_1 := blk_frozen BK124.out 1
              have hfz57_2 := blk_frozen BK124.out 2
              have hfz57_3 := blk_frozen BK124.out 3
              have hfz57_4 := blk_frozen BK124.out 4
              have hnb58 := NB126_125.out
              have hnc58 := NB125_126.out
              have hcz59_0 : wr.cell? ⟨gb126, 0, none⟩ = some (.slice none 0 0) := (blk_cell BK126.out 0).trans rfl
              have hcz59_1 : wr.cell? ⟨gb126, 1, none⟩ = some (u127001) := (blk_cell BK126.out 1).trans rfl
              have hcz59_2 : wr.cell? ⟨gb126, 2, none⟩ = some (u127002) := (blk_cell BK126.out 2).trans rfl
              have hcz59_3 : wr.cell? ⟨gb126, 3, none⟩ = some (.slice none 0 0) := (blk_cell BK126.out 3).trans rfl
              have hcz59_4 : wr.cell? ⟨gb126, 4, none⟩ = some (.slice none 0 0) := (blk_cell BK126.out 4).trans rfl
              have hfz59_0 := blk_frozen BK126.out 0
              have hfz59_1 := blk_frozen BK126.out 1
              have hfz59_2 := blk_frozen BK126.out 2
              have hfz59_3 := blk_frozen BK126.out 3
              have hfz59_4 := blk_frozen BK126.out 4
              have hcz60_0 : wr.cell? ⟨gb125, 0, none⟩ = some (.slice none 0 0) := (blk_cell BK125.out 0).trans rfl
              have hcz60_1 : wr.cell? ⟨gb125, 1, none⟩ = some (.slice none 0 0) := (blk_cell BK125.out 1).trans rfl
              have hcz60_2 : wr.cell? ⟨gb125, 2, none⟩ = some (.slice none 0 0) := (blk_cell BK125.out 2).trans rfl
              have hcz60_3 : wr.cell? ⟨gb125, 3, none⟩ = some (.slice none 0 0) := (blk_cell BK125.out 3).trans rfl
              have hcz60_4 : wr.cell? ⟨gb125, 4, none⟩ = some (.slice none 0 0) := (blk_cell BK125.out 4).trans rfl
              have hfz60_0 := blk_frozen BK125.out 0
              have hfz60_1 := blk_frozen BK125.out 1
              have hfz60_2 := blk_frozen BK125.out 2
              have hfz60_3 := blk_frozen BK125.out 3
              have hfz60_4 := blk_frozen BK125.out 4
              obtain ⟨Ao61, co61, eo61⟩ := Kd.R_slice HO_127001.out
              subst eo61
              obtain ⟨Ao62, co62, eo62⟩ := Kd.R_slice HO_127002.out
              subst eo62
              go_wp2
              refine bodyPost_ret (results_cell_row rfl _ _ gb125 27 #[.slice none 0 0, .slice Ao61 x127001_1.length co61, .slice Ao62 x127002_2.length co62, .slice none 0 0, .slice none 0 0] (0, 0) _ rfl (by refine blk_put (cs := #[.slice none 0 0, .slice Ao61 x127001_1.length co61, .slice Ao62 x127002_2.length co62, .slice none 0 0, .slice none 0 0]) ?_ 4 _ rfl; refine blk_put (cs := #[.slice none 0 0, .slice Ao61 x127001_1.length co61, .slice Ao62 x127002_2.length co62, .slice none 0 0, .slice none 0 0]) ?_ 3 _ rfl; refine blk_put (cs := #[.slice none 0 0, .slice Ao61 x127001_1.length co61, .slice none 0 0, .slice none 0 0, .slice none 0 0]) ?_ 2 _ rfl; refine blk_put (cs := #[.slice none 0 0, .slice none 0 0, .slice none 0 0, .slice none 0 0, .slice none 0 0]) ?_ 1 _ rfl; refine blk_put (cs := #[.slice none 0 0, .slice none 0 0, .slice none 0 0, .slice none 0 0, .slice none 0 0]) ?_ 0 _ rfl; exact BK125.out) Tryd.underlying27 rfl (by kernel_rfl)) rfl ?_
              exact ⟨_, _, _, _, _, by first | rfl, by first | exact Kd.R_nil _ _ _ _ _, by exact Kd.R_mono (Kd.R_far (p := ⟨gb125, 4, none⟩) (Kd.R_far (p := ⟨gb125, 3, none⟩) (Kd.R_far (p := ⟨gb125, 2, none⟩) (Kd.R_far (p := ⟨gb125, 1, none⟩) (Kd.R_far (p := ⟨gb125, 0, none⟩) (Kd.R_types HO_127001.out BK125.out (by decide)) (fun _ hk => hk.2) (.slice none 0 0)) (fun _ hk => hk.2) (.slice Ao61 x127001_1.length co61)) (fun _ hk => hk.2) (.slice Ao62 x127002_2.length co62)) (fun _ hk => hk.2) (.slice none 0 0)) (fun _ hk => hk.2) (.slice none 0 0)) (fun _ hk => (by simp [Value.ownBlock])), by exact Kd.R_mono (Kd.R_far (p := ⟨gb125, 4, none⟩) (Kd.R_far (p := ⟨gb125, 3, none⟩) (Kd.R_far (p := ⟨gb125, 2, none⟩) (Kd.R_far (p := ⟨gb125, 1, none⟩) (Kd.R_far (p := ⟨gb125, 0, none⟩) (Kd.R_types HO_127002.out BK125.out (by decide)) (fun _ hk => hk.2) (.slice none 0 0)) (fun _ hk => hk.2) (.slice Ao61 x127001_1.length co61)) (fun _ hk => hk.2) (.slice Ao62 x127002_2.length co62)) (fun _ hk => hk.2) (.slice none 0 0)) (fun _ hk => hk.2) (.slice none 0 0)) (fun _ hk => trivial), by first | exact Kd.R_nil _ _ _ _ _, by first | exact Kd.R_nil _ _ _ _ _, by repeat (first | (with_reducible first | exact HB.out | refine below_set ?_ GE125.out))⟩
          · rw [if_neg c35] at H
            have c35b0 : decide (x6_2 < (l0_2.length : Int)) = false := decide_eq_false c35
            clear c35
            simp only [Option.some.injEq, Prod.mk.injEq] at H
            obtain ⟨rfl, rfl, rfl, rfl, rfl⟩ := H
            have hnb63 := NB124_125.out
            have hnc63 := NB125_124.out
            have hnb64 := NB124_126.out
            have hnc64 := NB126_124.out
            have hcz65_0 : wr.cell? ⟨gb124, 0, none⟩ = some (.slice A0_0 l0_0.length c0_0) := (blk_cell BK124.out 0).trans rfl
            have hcz65_1 : wr.cell? ⟨gb124, 1, none⟩ = some (.slice A0_1 l0_1.length c0_1) := (blk_cell BK124.out 1).trans rfl
            have hcz65_2 : wr.cell? ⟨gb124, 2, none⟩ = some (.slice A0_2 l0_2.length c0_2) := (blk_cell BK124.out 2).trans rfl
            have hcz65_3 : wr.cell? ⟨gb124, 3, none⟩ = some (.slice A0_3 l0_3.length c0_3) := (blk_cell BK124.out 3).trans rfl
            have hcz65_4 : wr.cell? ⟨gb124, 4, none⟩ = some (.slice A0_4 l0_4.length c0_4) := (blk_cell BK124.out 4).trans rfl
            have hfz65_0 := blk_frozen BK124.out 0
            have hfz65_1 := blk_frozen BK124.out 1
            have hfz65_2 := blk_frozen BK124.out 2
            have hfz65_3 := blk_frozen BK124.out 3
            have hfz65_4 := blk_frozen BK124.out 4
            have hnb66 := NB126_125.out
            have hnc66 := NB125_126.out
            have hcz67_0 : wr.cell? ⟨gb126, 0, none⟩ = some (.slice none 0 0) := (blk_cell BK126.out 0).trans rfl
            have hcz67_1 : wr.cell? ⟨gb126, 1, none⟩ = some (u127001) := (blk_cell BK126.out 1).trans rfl
            have hcz67_2 : wr.cell? ⟨gb126, 2, none⟩ = some (u127002) := (blk_cell BK126.out 2).trans rfl
            have hcz67_3 : wr.cell? ⟨gb126, 3, none⟩ = some (.slice none 0 0) := (blk_cell BK126.out 3).trans rfl
            have hcz67_4 : wr.cell? ⟨gb126, 4, none⟩ = some (.slice none 0 0) := (blk_cell BK126.out 4).trans rfl
            have hfz67_0 := blk_frozen BK126.out 0
            have hfz67_1 := blk_frozen BK126.out 1
            have hfz67_2 := blk_frozen BK126.out 2
            have hfz67_3 := blk_frozen BK126.out 3
            have hfz67_4 := blk_frozen BK126.out 4
            have hcz68_0 : wr.cell? ⟨gb125, 0, none⟩ = some (.slice none 0 0) := (blk_cell BK125.out 0).trans rfl
            have hcz68_1 : wr.cell? ⟨gb125, 1, none⟩ = some (.slice none 0 0) := (blk_cell BK125.out 1).trans rfl
            have hcz68_2 : wr.cell? ⟨gb125, 2, none⟩ = some (.slice none 0 0) := (blk_cell BK125.out 2).trans rfl
            have hcz68_3 : wr.cell? ⟨gb125, 3, none⟩ = some (.slice none 0 0) := (blk_cell BK125.out 3).trans rfl
            have hcz68_4 : wr.cell? ⟨gb125, 4, none⟩ = some (.slice none 0 0) := (blk_cell BK125.out 4).trans rfl
            have hfz68_0 := blk_frozen BK125.out 0
            have hfz68_1 := blk_frozen BK125.out 1
            have hfz68_2 := blk_frozen BK125.out 2
            have hfz68_3 := blk_frozen BK125.out 3
            have hfz68_4 := blk_frozen BK125.out 4
            obtain ⟨Ao69, co69, eo69⟩ := Kd.R_slice HO_127001.out
            subst eo69
            obtain ⟨Ao70, co70, eo70⟩ := Kd.R_slice HO_127002.out
            subst eo70
            go_wp2
            refine bodyPost_ret (results_cell_row rfl _ _ gb125 27 #[.slice none 0 0, .slice Ao69 x127001_1.length co69, .slice Ao70 x127002_2.length co70, .slice none 0 0, .slice none 0 0] (0, 0) _ rfl (by refine blk_put (cs := #[.slice none 0 0, .slice Ao69 x127001_1.length co69, .slice Ao70 x127002_2.length co70, .slice none 0 0, .slice none 0 0]) ?_ 4 _ rfl; refine blk_put (cs := #[.slice none 0 0, .slice Ao69 x127001_1.length co69, .slice Ao70 x127002_2.length co70, .slice none 0 0, .slice none 0 0]) ?_ 3 _ rfl; refine blk_put (cs := #[.slice none 0 0, .slice Ao69 x127001_1.length co69, .slice none 0 0, .slice none 0 0, .slice none 0 0]) ?_ 2 _ rfl; refine blk_put (cs := #[.slice none 0 0, .slice none 0 0, .slice none 0 0, .slice none 0 0, .slice none 0 0]) ?_ 1 _ rfl; refine blk_put (cs := #[.slice none 0 0, .slice none 0 0, .slice none 0 0, .slice none 0 0, .slice none 0 0]) ?_ 0 _ rfl; exact BK125.out) Tryd.underlying27 rfl (by kernel_rfl)) rfl ?_
            exact ⟨_, _, _, _, _, by first | rfl, by first | exact Kd.R_nil _ _ _ _ _, by exact Kd.R_mono (Kd.R_far (p := ⟨gb125, 4, none⟩) (Kd.R_far (p := ⟨gb125, 3, none⟩) (Kd.R_far (p := ⟨gb125, 2, none⟩) (Kd.R_far (p := ⟨gb125, 1, none⟩) (Kd.R_far (p := ⟨gb125, 0, none⟩) (Kd.R_types HO_127001.out BK125.out (by decide)) (fun _ hk => hk.2) (.slice none 0 0)) (fun _ hk => hk.2) (.slice Ao69 x127001_1.length co69)) (fun _ hk => hk.2) (.slice Ao70 x127002_2.length co70)) (fun _ hk => hk.2) (.slice none 0 0)) (fun _ hk => hk.2) (.slice none 0 0)) (fun _ hk => (by simp [Value.ownBlock])), by exact Kd.R_mono (Kd.R_far (p := ⟨gb125, 4, none⟩) (Kd.R_far (p := ⟨gb125, 3, none⟩) (Kd.R_far (p := ⟨gb125, 2, none⟩) (Kd.R_far (p := ⟨gb125, 1, none⟩) (Kd.R_far (p := ⟨gb125, 0, none⟩) (Kd.R_types HO_127002.out BK125.out (by decide)) (fun _ hk => hk.2) (.slice none 0 0)) (fun _ hk => hk.2) (.slice Ao69 x127001_1.length co69)) (fun _ hk => hk.2) (.slice Ao70 x127002_2.length co70)) (fun _ hk => hk.2) (.slice none 0 0)) (fun _ hk => hk.2) (.slice none 0 0)) (fun _ hk => trivial), by first | exact Kd.R_nil _ _ _ _ _, by first | exact Kd.R_nil _ _ _ _ _, by repeat (first | (with_reducible first | exact HB.out | refine below_set ?_ GE125.out))⟩

end Go.Proofs.YtmfekngjhiofaaaDoor.Q
