-- Written by the session's own program (wip/tools/ownprint.py) for this claim: functions of the translation as plain Lean functions, and their contracts.
import Derived.Test.YtmfekngjhiofaaaGreatDoorQx0
import Derived.Test.YtmfekngjhiofaaaGreatDoorQx12
namespace Go.Proofs.YtmfekngjhiofaaaGreatDoor.Q
open Go.RowKit Go.Proofs.YtmfekngjhiofaaaGreatDoorW.PrintWords Go.Proofs.YtmfekngjhiofaaaGreatDoorW.PrintLast Go.Proofs.YtmfekngjhiofaaaGreatDoorW.PrintMore
attribute [local go_sem] max2_int min2_int max_two min_two max_three min_three max_four min_four   -- for this text's walks alone
set_option linter.unusedVariables false
set_option linter.unusedSimpArgs false

/-! ### proofmarkref27_Named: function 39 -/
mutual
def proofmarkref27_Named.l0 : Nat → List ByteArray → List ByteArray → Int → List (S125) → List (S72) → List (S114) → List (S105) → List (S72) → Option (Bool)
  | 0, _, _, _, _, _, _, _, _ => none
  | k + 1, x3, x4, x5, x203000, x203001, x203002, x203003, x203004 => if x5 < (x203001.length : Int) then (if 0 ≤ x5 then (if x3.length < 8796093022208 then (proofmarkref27_Named.l0 k (x3 ++ [(rd_T72 x203001 x5).f0]) x4 (wrap64 (x5 + 1)) x203000 x203001 x203002 x203003 x203004) else (none)) else (none)) else (proofmarkref27_Named.l1 k x3 x4 0 x203000 x203001 x203002 x203003 x203004)
def proofmarkref27_Named.l1 : Nat → List ByteArray → List ByteArray → Int → List (S125) → List (S72) → List (S114) → List (S105) → List (S72) → Option (Bool)
  | 0, _, _, _, _, _, _, _, _ => none
  | k + 1, x3, x4, x6, x203000, x203001, x203002, x203003, x203004 => if x6 < (x203002.length : Int) then (if 0 ≤ x6 then (if x4.length < 8796093022208 then (proofmarkref27_Named.l1 k x3 (x4 ++ [(rd_T114 x203002 x6).f0]) (wrap64 (x6 + 1)) x203000 x203001 x203002 x203003 x203004) else (none)) else (none)) else ((proofmarkref27_unlike.f k x3).bind fun t217 => (if t217 = true then ((proofmarkref27_unlike.f k x4).bind fun t218 => (some t218)) else (some false)))
end
def proofmarkref27_Named.f (k : Nat) (l0_0 : List (S125)) (l0_1 : List (S72)) (l0_2 : List (S114)) (l0_3 : List (S105)) (l0_4 : List (S72)) : Option (Bool) := proofmarkref27_Named.l0 k (([] : List ByteArray)) (([] : List ByteArray)) 0 l0_0 l0_1 l0_2 l0_3 l0_4
theorem proofmarkref27_Named.mono_l : ∀ k, (∀ y0 y1 y2 y3 y4 y5 y6 y7, LeO (proofmarkref27_Named.l0 k y0 y1 y2 y3 y4 y5 y6 y7) (proofmarkref27_Named.l0 (k + 1) y0 y1 y2 y3 y4 y5 y6 y7)) ∧ (∀ y0 y1 y2 y3 y4 y5 y6 y7, LeO (proofmarkref27_Named.l1 k y0 y1 y2 y3 y4 y5 y6 y7) (proofmarkref27_Named.l1 (k + 1) y0 y1 y2 y3 y4 y5 y6 y7))
  | 0 => ⟨fun _ _ _ _ _ _ _ _ r h => by simp [proofmarkref27_Named.l0] at h, fun _ _ _ _ _ _ _ _ r h => by simp [proofmarkref27_Named.l1] at h⟩
  | k + 1 => by
    obtain ⟨ih0, ih1⟩ := proofmarkref27_Named.mono_l k
    refine ⟨?_, ?_⟩
    · intro y0 y1 y2 y3 y4 y5 y6 y7
      unfold proofmarkref27_Named.l0
      repeat' first
      | (with_reducible exact ih0 _ _ _ _ _ _ _ _)
      | (with_reducible exact ih1 _ _ _ _ _ _ _ _)
      | (with_reducible exact proofmarkref27_unlike.mono _ _)
      | (with_reducible exact LeO.refl _)
      | (with_reducible exact LeO.none _)
      | (with_reducible refine LeO.ite ?_ ?_)
      | (with_reducible refine LeO.bind ?_ (fun _ => ?_))
      | exact ih0 _ _ _ _ _ _ _ _
      | exact ih1 _ _ _ _ _ _ _ _
      | exact proofmarkref27_unlike.mono _ _
      | exact LeO.none _
      | refine LeO.ite ?_ ?_
      | refine LeO.bind ?_ (fun _ => ?_)
    · intro y0 y1 y2 y3 y4 y5 y6 y7
      unfold proofmarkref27_Named.l1
      repeat' first
      | (with_reducible exact ih0 _ _ _ _ _ _ _ _)
      | (with_reducible exact ih1 _ _ _ _ _ _ _ _)
      | (with_reducible exact proofmarkref27_unlike.mono _ _)
      | (with_reducible exact LeO.refl _)
      | (with_reducible exact LeO.none _)
      | (with_reducible refine LeO.ite ?_ ?_)
      | (with_reducible refine LeO.bind ?_ (fun _ => ?_))
      | exact ih0 _ _ _ _ _ _ _ _
      | exact ih1 _ _ _ _ _ _ _ _
      | exact proofmarkref27_unlike.mono _ _
      | exact LeO.none _
      | refine LeO.ite ?_ ?_
      | refine LeO.bind ?_ (fun _ => ?_)
theorem proofmarkref27_Named.mono : ∀ a0 a1 a2 a3 a4 k, LeO (proofmarkref27_Named.f k a0 a1 a2 a3 a4) (proofmarkref27_Named.f (k + 1) a0 a1 a2 a3 a4) := by
  intro a0 a1 a2 a3 a4 k
  obtain ⟨ih0, ih1⟩ := proofmarkref27_Named.mono_l k
  unfold proofmarkref27_Named.f
  repeat' first
      | (with_reducible exact ih0 _ _ _ _ _ _ _ _)
      | (with_reducible exact ih1 _ _ _ _ _ _ _ _)
      | (with_reducible exact proofmarkref27_unlike.mono _ _)
      | (with_reducible exact LeO.refl _)
      | (with_reducible exact LeO.none _)
      | (with_reducible refine LeO.ite ?_ ?_)
      | (with_reducible refine LeO.bind ?_ (fun _ => ?_))
      | exact ih0 _ _ _ _ _ _ _ _
      | exact ih1 _ _ _ _ _ _ _ _
      | exact proofmarkref27_unlike.mono _ _
      | exact LeO.none _
      | refine LeO.ite ?_ ?_
      | refine LeO.bind ?_ (fun _ => ?_)
set_option maxHeartbeats 8000000 in
set_option maxRecDepth 100000 in
theorem proofmarkref27_Named.calls (k : Nat) (A0_0 : Option Addr) (c0_0 : Nat) (l0_0 : List (S125)) (A0_1 : Option Addr) (c0_1 : Nat) (l0_1 : List (S72)) (A0_2 : Option Addr) (c0_2 : Nat) (l0_2 : List (S114)) (A0_3 : Option Addr) (c0_3 : Nat) (l0_3 : List (S105)) (A0_4 : Option Addr) (c0_4 : Nat) (l0_4 : List (S72)) (r : Bool) (w : World) (hr0_0 : Kd.C k125 w A0_0 l0_0.length l0_0) (hc0_0 : l0_0.length ≤ c0_0) (hr0_1 : Kd.C k72 w A0_1 l0_1.length l0_1) (hc0_1 : l0_1.length ≤ c0_1) (hr0_2 : Kd.C k114 w A0_2 l0_2.length l0_2) (hc0_2 : l0_2.length ≤ c0_2) (hr0_3 : Kd.C k105 w A0_3 l0_3.length l0_3) (hc0_3 : l0_3.length ≤ c0_3) (hr0_4 : Kd.C k72 w A0_4 l0_4.length l0_4) (hc0_4 : l0_4.length ≤ c0_4) (h : proofmarkref27_Named.f k l0_0 l0_1 l0_2 l0_3 l0_4 = some r) :
    Calls Tryz.prog 39 #[.agg #[.slice A0_0 l0_0.length c0_0, .slice A0_1 l0_1.length c0_1, .slice A0_2 l0_2.length c0_2, .slice A0_3 l0_3.length c0_3, .slice A0_4 l0_4.length c0_4]] w fun e w' => e = .returned (.bool r) ∧ Below w.heap.size w w' := by
  have hu27 := Tryz.underlying27
  have HR0_0 := Aside0.mk hr0_0
  have HC0_0 := Aside0.mk hc0_0
  clear hr0_0 hc0_0
  have HR0_1 := Aside0.mk hr0_1
  have HC0_1 := Aside0.mk hc0_1
  clear hr0_1 hc0_1
  have HR0_2 := Aside0.mk hr0_2
  have HC0_2 := Aside0.mk hc0_2
  clear hr0_2 hc0_2
  have HR0_3 := Aside0.mk hr0_3
  have HC0_3 := Aside0.mk hc0_3
  clear hr0_3 hc0_3
  have HR0_4 := Aside0.mk hr0_4
  have HC0_4 := Aside0.mk hc0_4
  clear hr0_4 hc0_4
  have HB := Aside0.mk (Below.refl w.heap.size w)
  have H : (proofmarkref27_Named.l0 k (([] : List ByteArray)) (([] : List ByteArray)) 0 l0_0 l0_1 l0_2 l0_3 l0_4) = some r := h
  clear h
  obtain ⟨y203, hy203⟩ : ∃ y_ : List ByteArray, y_ = (([] : List ByteArray)) := ⟨_, rfl⟩
  replace H : (proofmarkref27_Named.l0 k y203 (([] : List ByteArray)) 0 l0_0 l0_1 l0_2 l0_3 l0_4) = some r := by first | (rw [hy203]; with_reducible exact H)
  have Ny203 := Aside0.mk hy203
  clear hy203
  obtain ⟨y206, hy206⟩ : ∃ y_ : List ByteArray, y_ = (([] : List ByteArray)) := ⟨_, rfl⟩
  replace H : (proofmarkref27_Named.l0 k y203 y206 0 l0_0 l0_1 l0_2 l0_3 l0_4) = some r := by first | (rw [hy206]; with_reducible exact H)
  have Ny206 := Aside0.mk hy206
  clear hy206
  have H' := Aside0.mk H
  clear H
  go_enter Tryz.func39, Tryz.ntmps39
  go_wp2_with (first | ((with_reducible refine gate_dst (N := 1) rfl ?_); refine box_event ?hg (N := 1) ?hd (cs := #[.slice A0_0 l0_0.length c0_0, .slice A0_1 l0_1.length c0_1, .slice A0_2 l0_2.length c0_2, .slice A0_3 l0_3.length c0_3, .slice A0_4 l0_4.length c0_4]) (t := 27) ?hr ?_; (case hd => rfl); (case hg => rfl); (case hr => first | (go_simp; done)); intro gb202 hg w2 hbox hb; have n0_ := Aside0.mk (below_step HB.out hb); have n1_ := Aside0.mk (hbox); have n2_ := Aside0.mk ((by rw [hg]; exact (below_size HB.out) : w.heap.size ≤ gb202)); have n3_ := Aside0.mk ((by rw [hg]; exact (below_size HB.out) : w.heap.size ≤ gb202)); clear HB; have HB := n0_; have BK202 := n1_; have GW202 := n2_; have GE202 := n3_; clear n0_ n1_ n2_ n3_; clear hb hbox hg) | ((with_reducible refine gate_dst (N := 7) rfl ?_); refine Kd.R_lit Kd.string _ 9 ?hg (N := 7) ?hd (xs := ([] : List ByteArray)) (inner := []) (ok := fun _ => True) (okp := fun _ => True) ?hr ?hp (fun _ hk => hk) trivial (Below.refl _ _) (Nat.le_refl _) (by simp) ?_; (case hd => rfl); (case hg => rfl); (case hr => first | (go_simp; done)); (case hp => exact (Reps.none _ _)); intro v204 w3 ho4 hb hg_ hnew_; clear hg_ hnew_; (first | rw [← Ny203.out] at ho4); have n0_ := Aside0.mk (Kd.R_lower ho4 (below_size HB.out)); have n1_ := Aside0.mk (blk_below BK202.out hb); have n2_ := Aside0.mk (below_step HB.out hb); clear BK202; clear HB; have HO205 := n0_; have BK202 := n1_; have HB := n2_; clear n0_ n1_ n2_; clear hb ho4) | ((with_reducible refine gate_dst (N := 8) rfl ?_); refine Kd.R_lit Kd.string _ 9 ?hg (N := 8) ?hd (xs := ([] : List ByteArray)) (inner := []) (ok := fun _ => True) (okp := fun _ => True) ?hr ?hp (fun _ hk => hk) trivial (Below.refl _ _) (Nat.le_refl _) (by simp) ?_; (case hd => rfl); (case hg => rfl); (case hr => first | (go_simp; done)); (case hp => exact (Reps.none _ _)); intro v207 w5 ho6 hb hg_ hnew_; clear hg_ hnew_; (first | rw [← Ny206.out] at ho6); have n0_ := Aside0.mk (Kd.R_elder' HO205.out (Kd.R_base ho6) hb); have n1_ := Aside0.mk (Kd.R_lower (Kd.R_new' ho6 (Kd.R_lt HO205.out)) (below_size HB.out)); have n2_ := Aside0.mk (blk_below BK202.out hb); have n3_ := Aside0.mk (below_step HB.out hb); clear HO205; clear BK202; clear HB; have HO205 := n0_; have HO208 := n1_; have BK202 := n2_; have HB := n3_; clear n0_ n1_ n2_ n3_; clear hb ho6))
  try simp only [Act.put, List.setIfInBounds_toArray, List.set_cons_succ, List.set_cons_zero]
  go_loopg [3, 5] k (fun kq v3 v5 w' => ∃ (x3_1 : List ByteArray) (x5_1 : Int), v5 = .int .i64 x5_1 ∧ Aside0 (proofmarkref27_Named.l0 kq x3_1 y206 x5_1 l0_0 l0_1 l0_2 l0_3 l0_4 = some r) ∧ Aside0 (kq ≤ k) ∧ Aside0 (Kd.R Kd.string 9 w' w.heap.size (fun k_ => some k_ ≠ (v207 : Value).ownBlock) v3 x3_1) ∧ Aside0 (Kd.R Kd.string 9 w' w.heap.size (fun k_ => some k_ ≠ (v3 : Value).ownBlock) v207 y206) ∧ Aside0 (w'.heap[gb202]? = some (.cells #[(.slice A0_0 l0_0.length c0_0), (.slice A0_1 l0_1.length c0_1), (.slice A0_2 l0_2.length c0_2), (.slice A0_3 l0_3.length c0_3), (.slice A0_4 l0_4.length c0_4)] 27 (0, 0))) ∧ Aside0 (Below w.heap.size w w'))
  case atStart => exact ⟨(y203), (0), rfl, H', ⟨Nat.le_refl _⟩, ⟨by exact Kd.R_mono HO205.out (fun _ hk => hk.2)⟩, ⟨by exact Kd.R_mono HO208.out (fun _ hk => hk.2)⟩, ⟨by exact BK202.out⟩, ⟨by exact HB.out⟩⟩
  case round =>
    clear H'
    try clear p2
    try clear c3
    obtain ⟨x3_1, x5_1, rfl, HA, HK1, HO_3, HO_4, BK202, HB⟩ := hrel
    cases gk with
    | zero => exact absurd HA.out (by simp [proofmarkref27_Named.l0])
    | succ k1 =>
      have H := HA.out
      clear HA
      simp only [proofmarkref27_Named.l0] at H
      by_cases c7 : x5_1 < (l0_1.length : Int)
      · rw [if_pos c7] at H
        have c7b0 : decide (x5_1 < (l0_1.length : Int)) = true := decide_eq_true c7
        clear c7
        by_cases c8 : 0 ≤ x5_1
        · rw [if_pos c8] at H
          have c8b0 : decide (0 ≤ x5_1) = true := decide_eq_true c8
          clear c8
          by_cases c9 : x3_1.length < 8796093022208
          · rw [if_pos c9] at H
            have LMc9 := Aside0.mk c9
            clear c9
            obtain ⟨y210, hy210⟩ : ∃ y_ : List ByteArray, y_ = (x3_1 ++ [(rd_T72 l0_1 x5_1).f0]) := ⟨_, rfl⟩
            replace H : (proofmarkref27_Named.l0 k1 y210 y206 (wrap64 (x5_1 + 1)) l0_0 l0_1 l0_2 l0_3 l0_4) = some r := by first | (rw [hy210]; with_reducible exact H)
            have Ny210 := Aside0.mk hy210
            clear hy210
            have H' := Aside0.mk H
            clear H
            have hcz10_0 : wr.cell? ⟨gb202, 0, none⟩ = some (.slice A0_0 l0_0.length c0_0) := (blk_cell BK202.out 0).trans rfl
            have hcz10_1 : wr.cell? ⟨gb202, 1, none⟩ = some (.slice A0_1 l0_1.length c0_1) := (blk_cell BK202.out 1).trans rfl
            have hcz10_2 : wr.cell? ⟨gb202, 2, none⟩ = some (.slice A0_2 l0_2.length c0_2) := (blk_cell BK202.out 2).trans rfl
            have hcz10_3 : wr.cell? ⟨gb202, 3, none⟩ = some (.slice A0_3 l0_3.length c0_3) := (blk_cell BK202.out 3).trans rfl
            have hcz10_4 : wr.cell? ⟨gb202, 4, none⟩ = some (.slice A0_4 l0_4.length c0_4) := (blk_cell BK202.out 4).trans rfl
            have hfz10_0 := blk_frozen BK202.out 0
            have hfz10_1 := blk_frozen BK202.out 1
            have hfz10_2 := blk_frozen BK202.out 2
            have hfz10_3 := blk_frozen BK202.out 3
            have hfz10_4 := blk_frozen BK202.out 4
            have p209 : 0 ≤ (x5_1 : Int) := of_decide_eq_true (by first | (with_reducible assumption))
            have q209 : x5_1 < (l0_1.length : Int) := of_decide_eq_true (by first | (with_reducible assumption))
            obtain ⟨ad209, e209, hx209_0, hx209_1⟩ := at_T72 HR0_1.out x5_1 p209 q209
            cases e209
            replace hx209_0 := (HB.out.cell (World.block_lt_of_cell? w _ hx209_0)).trans hx209_0
            replace hx209_1 := (HB.out.cell (World.block_lt_of_cell? w _ hx209_1)).trans hx209_1
            replace p209 := eq_true p209
            replace q209 := eq_true q209
            go_wp2_with (first | ((with_reducible refine gate_builtin (b := .append) (xs := #[.tmp 16, .tmp 23]) rfl ?_); at_builtin; refine Kd.R_append Kd.string (w0 := w) w.heap.size rfl (.tmp 16) (.tmp 23) 77 9 (.string ⟨#[]⟩) 16 rfl Tryz.underlying77 info9 rfl (by decide) (by omega) u3 x3_1 ((rd_T72 l0_1 x5_1).f0) [.string ((rd_T72 l0_1 x5_1).f0)] (fun k_ => some k_ ≠ (v207 : Value).ownBlock) (fun _ => False) rfl rfl ?aP (fun _ hk => hk.elim) ?aF ?aO ?aB ?aS ?aL ?_; (case aP => exact rfl); (case aB => exact HB.out); (case aF => exact (fun k_ hk => Kd.fresh' (Kd.R_lt HO_4.out) k_ hk)); (case aO => exact HO_3.out); (case aS => exact (below_size HB.out)); (case aL => have := LMc9.out; omega); intro v211 w11 ho hb hg hat; rw [← Ny210.out] at ho; have n0_ := Aside0.mk (Kd.R_after (ok := (fun _ => True)) (by exact Kd.R_mono HO_4.out (fun _ hk => ⟨trivial, hk⟩)) hg hat); have n1_ := Aside0.mk (blk_grown (g := gb202) (o := .cells #[.slice A0_0 l0_0.length c0_0, .slice (some ad209) l0_1.length c0_1, .slice A0_2 l0_2.length c0_2, .slice A0_3 l0_3.length c0_3, .slice A0_4 l0_4.length c0_4] 27 (0, 0)) BK202.out hg (Kd.R_ne HO_3.out BK202.out (by decide))); have n2_ := Aside0.mk (hb); have n3_ := Aside0.mk (ho); clear HO_4; clear BK202; clear HB; clear HO_3; have HO_4 := n0_; have BK202 := n1_; have HB := n2_; have HO212 := n3_; clear n0_ n1_ n2_ n3_; clear ho hb hg hat))
            go_roundg k1
            case measure => have := HK1.out; omega
            case rel => exact ⟨(y210), (wrap64 (x5_1 + 1)), rfl, H', ⟨by have := HK1.out; omega⟩, ⟨by exact HO212.out⟩, ⟨by exact Kd.R_mono HO_4.out (fun _ hk => hk.2)⟩, ⟨by exact BK202.out⟩, ⟨by exact HB.out⟩⟩
          · rw [if_neg c9] at H
            exact absurd H (by simp)
        · rw [if_neg c8] at H
          exact absurd H (by simp)
      · rw [if_neg c7] at H
        have c7b0 : decide (x5_1 < (l0_1.length : Int)) = false := decide_eq_false c7
        clear c7
        have H' := Aside0.mk H
        clear H
        have hcz12_0 : wr.cell? ⟨gb202, 0, none⟩ = some (.slice A0_0 l0_0.length c0_0) := (blk_cell BK202.out 0).trans rfl
        have hcz12_1 : wr.cell? ⟨gb202, 1, none⟩ = some (.slice A0_1 l0_1.length c0_1) := (blk_cell BK202.out 1).trans rfl
        have hcz12_2 : wr.cell? ⟨gb202, 2, none⟩ = some (.slice A0_2 l0_2.length c0_2) := (blk_cell BK202.out 2).trans rfl
        have hcz12_3 : wr.cell? ⟨gb202, 3, none⟩ = some (.slice A0_3 l0_3.length c0_3) := (blk_cell BK202.out 3).trans rfl
        have hcz12_4 : wr.cell? ⟨gb202, 4, none⟩ = some (.slice A0_4 l0_4.length c0_4) := (blk_cell BK202.out 4).trans rfl
        have hfz12_0 := blk_frozen BK202.out 0
        have hfz12_1 := blk_frozen BK202.out 1
        have hfz12_2 := blk_frozen BK202.out 2
        have hfz12_3 := blk_frozen BK202.out 3
        have hfz12_4 := blk_frozen BK202.out 4
        go_wp2
        try simp only [Act.put, List.setIfInBounds_toArray, List.set_cons_succ, List.set_cons_zero]
        go_loopg [4, 6] k1 (fun kq v4 v6 w' => ∃ (x4_2 : List ByteArray) (x6_2 : Int), v6 = .int .i64 x6_2 ∧ Aside0 (proofmarkref27_Named.l1 kq x3_1 x4_2 x6_2 l0_0 l0_1 l0_2 l0_3 l0_4 = some r) ∧ Aside0 (kq ≤ k1) ∧ Aside0 (Kd.R Kd.string 9 w' w.heap.size (fun k_ => some k_ ≠ (v4 : Value).ownBlock) u3 x3_1) ∧ Aside0 (Kd.R Kd.string 9 w' w.heap.size (fun k_ => some k_ ≠ (u3 : Value).ownBlock) v4 x4_2) ∧ Aside0 (w'.heap[gb202]? = some (.cells #[(.slice A0_0 l0_0.length c0_0), (.slice A0_1 l0_1.length c0_1), (.slice A0_2 l0_2.length c0_2), (.slice A0_3 l0_3.length c0_3), (.slice A0_4 l0_4.length c0_4)] 27 (0, 0))) ∧ Aside0 (Below w.heap.size w w'))
        case atStart => exact ⟨(y206), (0), rfl, H', ⟨Nat.le_refl _⟩, ⟨by exact HO_3.out⟩, ⟨by exact HO_4.out⟩, ⟨by exact BK202.out⟩, ⟨by exact HB.out⟩⟩
        case round =>
          clear H'
          try clear p2
          try clear q2
          try clear hx2
          try clear c3
          try clear p6
          try clear c7
          try clear c7b0
          try clear c8
          try clear c8b0
          try clear c9
          try clear hcz10_0
          try clear hcz10_1
          try clear hcz10_2
          try clear hcz10_3
          try clear hcz10_4
          try clear hcz12_0
          try clear hcz12_1
          try clear hcz12_2
          try clear hcz12_3
          try clear hcz12_4
          try clear hfz10_0
          try clear hfz10_1
          try clear hfz10_2
          try clear hfz10_3
          try clear hfz10_4
          try clear hfz12_0
          try clear hfz12_1
          try clear hfz12_2
          try clear hfz12_3
          try clear hfz12_4
          try clear hx209_0
          try clear hx209_1
          try clear p2
          try clear p209
          try clear q209
          obtain ⟨x4_2, x6_2, rfl, HA, HK2, HO_3, HO_4, BK202, HB⟩ := hrel
          cases gk with
          | zero => exact absurd HA.out (by simp [proofmarkref27_Named.l1])
          | succ k2 =>
            have H := HA.out
            clear HA
            simp only [proofmarkref27_Named.l1] at H
            by_cases c13 : x6_2 < (l0_2.length : Int)
            · rw [if_pos c13] at H
              have c13b0 : decide (x6_2 < (l0_2.length : Int)) = true := decide_eq_true c13
              clear c13
              by_cases c14 : 0 ≤ x6_2
              · rw [if_pos c14] at H
                have c14b0 : decide (0 ≤ x6_2) = true := decide_eq_true c14
                clear c14
                by_cases c15 : x4_2.length < 8796093022208
                · rw [if_pos c15] at H
                  have LMc15 := Aside0.mk c15
                  clear c15
                  obtain ⟨y214, hy214⟩ : ∃ y_ : List ByteArray, y_ = (x4_2 ++ [(rd_T114 l0_2 x6_2).f0]) := ⟨_, rfl⟩
                  replace H : (proofmarkref27_Named.l1 k2 x3_1 y214 (wrap64 (x6_2 + 1)) l0_0 l0_1 l0_2 l0_3 l0_4) = some r := by first | (rw [hy214]; with_reducible exact H)
                  have Ny214 := Aside0.mk hy214
                  clear hy214
                  have H' := Aside0.mk H
                  clear H
                  have hcz16_0 : wr.cell? ⟨gb202, 0, none⟩ = some (.slice A0_0 l0_0.length c0_0) := (blk_cell BK202.out 0).trans rfl
                  have hcz16_1 : wr.cell? ⟨gb202, 1, none⟩ = some (.slice A0_1 l0_1.length c0_1) := (blk_cell BK202.out 1).trans rfl
                  have hcz16_2 : wr.cell? ⟨gb202, 2, none⟩ = some (.slice A0_2 l0_2.length c0_2) := (blk_cell BK202.out 2).trans rfl
                  have hcz16_3 : wr.cell? ⟨gb202, 3, none⟩ = some (.slice A0_3 l0_3.length c0_3) := (blk_cell BK202.out 3).trans rfl
                  have hcz16_4 : wr.cell? ⟨gb202, 4, none⟩ = some (.slice A0_4 l0_4.length c0_4) := (blk_cell BK202.out 4).trans rfl
                  have hfz16_0 := blk_frozen BK202.out 0
                  have hfz16_1 := blk_frozen BK202.out 1
                  have hfz16_2 := blk_frozen BK202.out 2
                  have hfz16_3 := blk_frozen BK202.out 3
                  have hfz16_4 := blk_frozen BK202.out 4
                  have p213 : 0 ≤ (x6_2 : Int) := of_decide_eq_true (by first | (with_reducible assumption))
                  have q213 : x6_2 < (l0_2.length : Int) := of_decide_eq_true (by first | (with_reducible assumption))
                  obtain ⟨ad213, e213, hx213_0, hx213_1, hx213_2, hx213_3⟩ := at_T114 HR0_2.out x6_2 p213 q213
                  cases e213
                  replace hx213_0 := (HB.out.cell (World.block_lt_of_cell? w _ hx213_0)).trans hx213_0
                  replace hx213_1 := (HB.out.cell (World.block_lt_of_cell? w _ hx213_1)).trans hx213_1
                  replace hx213_2 := (HB.out.cell (World.block_lt_of_cell? w _ hx213_2)).trans hx213_2
                  replace hx213_3 := (HB.out.cell (World.block_lt_of_cell? w _ hx213_3)).trans hx213_3
                  replace p213 := eq_true p213
                  replace q213 := eq_true q213
                  go_wp2_with (first | ((with_reducible refine gate_builtin (b := .append) (xs := #[.tmp 32, .tmp 39]) rfl ?_); at_builtin; refine Kd.R_append Kd.string (w0 := w) w.heap.size rfl (.tmp 32) (.tmp 39) 77 9 (.string ⟨#[]⟩) 16 rfl Tryz.underlying77 info9 rfl (by decide) (by omega) u4 x4_2 ((rd_T114 l0_2 x6_2).f0) [.string ((rd_T114 l0_2 x6_2).f0)] (fun k_ => some k_ ≠ (u3 : Value).ownBlock) (fun _ => False) rfl rfl ?aP (fun _ hk => hk.elim) ?aF ?aO ?aB ?aS ?aL ?_; (case aP => exact rfl); (case aB => exact HB.out); (case aF => exact (fun k_ hk => Kd.fresh' (Kd.R_lt HO_3.out) k_ hk)); (case aO => exact HO_4.out); (case aS => exact (below_size HB.out)); (case aL => have := LMc15.out; omega); intro v215 w17 ho hb hg hat; rw [← Ny214.out] at ho; have n0_ := Aside0.mk (Kd.R_after (ok := (fun _ => True)) (by exact Kd.R_mono HO_3.out (fun _ hk => ⟨trivial, hk⟩)) hg hat); have n1_ := Aside0.mk (blk_grown (g := gb202) (o := .cells #[.slice A0_0 l0_0.length c0_0, .slice A0_1 l0_1.length c0_1, .slice (some ad213) l0_2.length c0_2, .slice A0_3 l0_3.length c0_3, .slice A0_4 l0_4.length c0_4] 27 (0, 0)) BK202.out hg (Kd.R_ne HO_4.out BK202.out (by decide))); have n2_ := Aside0.mk (hb); have n3_ := Aside0.mk (ho); clear HO_3; clear BK202; clear HB; clear HO_4; have HO_3 := n0_; have BK202 := n1_; have HB := n2_; have HO216 := n3_; clear n0_ n1_ n2_ n3_; clear ho hb hg hat))
                  go_roundg k2
                  case measure => have := HK1.out; have := HK2.out; omega
                  case rel => exact ⟨(y214), (wrap64 (x6_2 + 1)), rfl, H', ⟨by have := HK1.out; have := HK2.out; omega⟩, ⟨by exact Kd.R_mono HO_3.out (fun _ hk => hk.2)⟩, ⟨by exact HO216.out⟩, ⟨by exact BK202.out⟩, ⟨by exact HB.out⟩⟩
                · rw [if_neg c15] at H
                  exact absurd H (by simp)
              · rw [if_neg c14] at H
                exact absurd H (by simp)
            · rw [if_neg c13] at H
              have c13b0 : decide (x6_2 < (l0_2.length : Int)) = false := decide_eq_false c13
              clear c13
              replace H := Option.bind_eq_some_iff.mp H
              obtain ⟨t217, A180, H⟩ := H
              replace H : (if t217 = true then ((proofmarkref27_unlike.f k2 x4_2).bind fun t218 => (some t218)) else (some false)) = some r := H
              have A18 := Aside0.mk A180
              clear A180
              by_cases c19 : t217 = true
              · subst c19
                have H1 : ((proofmarkref27_unlike.f k2 x4_2).bind fun t218 => (some t218)) = some r := by rw [if_pos rfl] at H; exact H
                clear H
                have H := H1
                clear H1
                replace H := Option.bind_eq_some_iff.mp H
                obtain ⟨t218, A200, H⟩ := H
                replace H : (some t218) = some r := H
                have A20 := Aside0.mk A200
                clear A200
                obtain rfl := Option.some.inj H
                have hcz21_0 : wr.cell? ⟨gb202, 0, none⟩ = some (.slice A0_0 l0_0.length c0_0) := (blk_cell BK202.out 0).trans rfl
                have hcz21_1 : wr.cell? ⟨gb202, 1, none⟩ = some (.slice A0_1 l0_1.length c0_1) := (blk_cell BK202.out 1).trans rfl
                have hcz21_2 : wr.cell? ⟨gb202, 2, none⟩ = some (.slice A0_2 l0_2.length c0_2) := (blk_cell BK202.out 2).trans rfl
                have hcz21_3 : wr.cell? ⟨gb202, 3, none⟩ = some (.slice A0_3 l0_3.length c0_3) := (blk_cell BK202.out 3).trans rfl
                have hcz21_4 : wr.cell? ⟨gb202, 4, none⟩ = some (.slice A0_4 l0_4.length c0_4) := (blk_cell BK202.out 4).trans rfl
                have hfz21_0 := blk_frozen BK202.out 0
                have hfz21_1 := blk_frozen BK202.out 1
                have hfz21_2 := blk_frozen BK202.out 2
                have hfz21_3 := blk_frozen BK202.out 3
                have hfz21_4 := blk_frozen BK202.out 4
                obtain ⟨Ao22, co22, eo22⟩ := Kd.R_slice HO_3.out
                subst eo22
                go_wp2_with (first | ((with_reducible refine gate_callee (f := 70) rfl ?_); refine goesL_ (some 42) rfl rfl Tryz.func70 (by kernel_rfl) rfl #[.slice Ao22 x3_1.length co22] rfl (by (try simp only [List.map_toArray, List.map_cons, List.map_nil]); first | rfl) ?_; (with_reducible refine (proofmarkref27_unlike.calls k2 _ _ x3_1 true _ ?side1 ?side2 A18.out).mono ?_); (case side1 => repeat (first | exact (Kd.R_reads' HO_3.out).2.2)); (case side2 => exact (Kd.R_reads' HO_3.out).2.1); rintro e w' ⟨rfl, ⟨nd, rfl⟩⟩; refine ⟨_, rfl, ?_⟩; obtain ⟨Ao23, co23, eo23⟩ := Kd.R_slice HO_4.out; subst eo23) | (go_at_call 70; (with_reducible refine (proofmarkref27_unlike.calls k2 _ _ x4_2 t218 _ ?side1 ?side2 A20.out).mono ?_); (case side1 => repeat (first | exact (Kd.R_reads' HO_4.out).2.2)); (case side2 => exact (Kd.R_reads' HO_4.out).2.1); rintro e w' ⟨rfl, ⟨nd, rfl⟩⟩))
                go_ret
                exact ⟨by first | rfl, by repeat (first | (with_reducible first | exact HB.out | apply pw_below_drewN))⟩
              · replace c19 := Bool.eq_false_iff.mpr c19
                subst c19
                have H1 : (some false) = some r := by rw [if_neg (show ¬ (false = true) by decide)] at H; exact H
                clear H
                have H := H1
                clear H1
                obtain rfl := Option.some.inj H
                have hcz24_0 : wr.cell? ⟨gb202, 0, none⟩ = some (.slice A0_0 l0_0.length c0_0) := (blk_cell BK202.out 0).trans rfl
                have hcz24_1 : wr.cell? ⟨gb202, 1, none⟩ = some (.slice A0_1 l0_1.length c0_1) := (blk_cell BK202.out 1).trans rfl
                have hcz24_2 : wr.cell? ⟨gb202, 2, none⟩ = some (.slice A0_2 l0_2.length c0_2) := (blk_cell BK202.out 2).trans rfl
                have hcz24_3 : wr.cell? ⟨gb202, 3, none⟩ = some (.slice A0_3 l0_3.length c0_3) := (blk_cell BK202.out 3).trans rfl
                have hcz24_4 : wr.cell? ⟨gb202, 4, none⟩ = some (.slice A0_4 l0_4.length c0_4) := (blk_cell BK202.out 4).trans rfl
                have hfz24_0 := blk_frozen BK202.out 0
                have hfz24_1 := blk_frozen BK202.out 1
                have hfz24_2 := blk_frozen BK202.out 2
                have hfz24_3 := blk_frozen BK202.out 3
                have hfz24_4 := blk_frozen BK202.out 4
                obtain ⟨Ao25, co25, eo25⟩ := Kd.R_slice HO_3.out
                subst eo25
                go_wp2_with (first | ((with_reducible refine gate_callee (f := 70) rfl ?_); refine goesL_ (some 42) rfl rfl Tryz.func70 (by kernel_rfl) rfl #[.slice Ao25 x3_1.length co25] rfl (by (try simp only [List.map_toArray, List.map_cons, List.map_nil]); first | rfl) ?_; (with_reducible refine (proofmarkref27_unlike.calls k2 _ _ x3_1 false _ ?side1 ?side2 A18.out).mono ?_); (case side1 => repeat (first | exact (Kd.R_reads' HO_3.out).2.2)); (case side2 => exact (Kd.R_reads' HO_3.out).2.1); rintro e w' ⟨rfl, ⟨nd, rfl⟩⟩; refine ⟨_, rfl, ?_⟩))
                go_ret
                exact ⟨by first | rfl, by repeat (first | (with_reducible first | exact HB.out | apply pw_below_drewN))⟩

/-! ### proofmarkref27_Num: function 71 -/
def proofmarkref27_Num.l0 : Nat → Int → ByteArray → Option (ByteArray)
  | 0, _, _ => none
  | k + 1, x0, x3 => if x0 > 0 then ((some (([(wrap64 (48 + (Int.tmod x0 10))) % 256] : List Int) : List Int)).bind fun y219 => (if (strOfNums y219).size + x3.size ≤ 9223372036854775807 then (proofmarkref27_Num.l0 k (wrap64 (Int.tdiv x0 10)) ((strOfNums y219) ++ x3)) else (none))) else (if x3.toList = ([] : List UInt8) then ((some (([(wrap64 (48 + (Int.tmod x0 10))) % 256] : List Int) : List Int)).bind fun y222 => (if (strOfNums y222).size + x3.size ≤ 9223372036854775807 then (proofmarkref27_Num.l0 k (wrap64 (Int.tdiv x0 10)) ((strOfNums y222) ++ x3)) else (none))) else (some x3))
def proofmarkref27_Num.f (k : Nat) (a0 : Int) : Option (ByteArray) := proofmarkref27_Num.l0 k a0 (⟨#[]⟩ : ByteArray)
theorem proofmarkref27_Num.mono_l : ∀ k, (∀ y0 y1, LeO (proofmarkref27_Num.l0 k y0 y1) (proofmarkref27_Num.l0 (k + 1) y0 y1))
  | 0 => fun _ _ r h => by simp [proofmarkref27_Num.l0] at h
  | k + 1 => by
    have ih0 := proofmarkref27_Num.mono_l k
    · intro y0 y1
      unfold proofmarkref27_Num.l0
      repeat' first
      | (with_reducible exact ih0 _ _)
      | (with_reducible exact LeO.refl _)
      | (with_reducible exact LeO.none _)
      | (with_reducible refine LeO.ite ?_ ?_)
      | (with_reducible refine LeO.bind ?_ (fun _ => ?_))
      | exact ih0 _ _
      | exact LeO.none _
      | refine LeO.ite ?_ ?_
      | refine LeO.bind ?_ (fun _ => ?_)
theorem proofmarkref27_Num.mono : ∀ a0 k, LeO (proofmarkref27_Num.f k a0) (proofmarkref27_Num.f (k + 1) a0) := by
  intro a0 k
  have ih0 := proofmarkref27_Num.mono_l k
  unfold proofmarkref27_Num.f
  repeat' first
      | (with_reducible exact ih0 _ _)
      | (with_reducible exact LeO.refl _)
      | (with_reducible exact LeO.none _)
      | (with_reducible refine LeO.ite ?_ ?_)
      | (with_reducible refine LeO.bind ?_ (fun _ => ?_))
      | exact ih0 _ _
      | exact LeO.none _
      | refine LeO.ite ?_ ?_
      | refine LeO.bind ?_ (fun _ => ?_)
set_option maxHeartbeats 8000000 in
set_option maxRecDepth 100000 in
theorem proofmarkref27_Num.calls (k : Nat) (a0 : Int) (r : ByteArray) (w : World) (h : proofmarkref27_Num.f k a0 = some r) :
    Calls Tryz.prog 71 #[.int .i64 a0] w fun e w' => e = .returned (.string r) ∧ Below w.heap.size w w' := by
  have HB := Aside0.mk (Below.refl w.heap.size w)
  have H : (proofmarkref27_Num.l0 k a0 (⟨#[]⟩ : ByteArray)) = some r := h
  clear h
  have H' := Aside0.mk H
  clear H
  go_enter Tryz.func71, Tryz.ntmps71
  go_wp2
  try simp only [Act.put, List.setIfInBounds_toArray, List.set_cons_succ, List.set_cons_zero]
  go_loopg [0, 3] k (fun kq v0 v3 w' => ∃ (x0_1 : Int) (x3_1 : ByteArray), v0 = .int .i64 x0_1 ∧ v3 = .string x3_1 ∧ Aside0 (proofmarkref27_Num.l0 kq x0_1 x3_1 = some r) ∧ Aside0 (kq ≤ k) ∧ Aside0 (Below w.heap.size w w'))
  case atStart => exact ⟨(a0), ((⟨#[]⟩ : ByteArray)), rfl, rfl, H', ⟨Nat.le_refl _⟩, ⟨by exact HB.out⟩⟩
  case round =>
    clear H'
    obtain ⟨x0_1, x3_1, rfl, rfl, HA, HK1, HB⟩ := hrel
    cases gk with
    | zero => exact absurd HA.out (by simp [proofmarkref27_Num.l0])
    | succ k1 =>
      have H := HA.out
      clear HA
      simp only [proofmarkref27_Num.l0] at H
      by_cases c2 : x0_1 > 0
      · rw [if_pos c2] at H
        have c2b0 : decide (0 < x0_1) = true := decide_eq_true c2
        clear c2
        obtain ⟨y219, hy219⟩ : ∃ y_ : List Int, y_ = (([(wrap64 (48 + (Int.tmod x0_1 10))) % 256] : List Int)) := ⟨_, rfl⟩
        replace H : (if (strOfNums y219).size + x3_1.size ≤ 9223372036854775807 then (proofmarkref27_Num.l0 k1 (wrap64 (Int.tdiv x0_1 10)) ((strOfNums y219) ++ x3_1)) else (none)) = some r := by first | (have H2_ := (Option.bind_some _ _).symm.trans H; rw [hy219]; with_reducible exact H2_)
        have Ny219 := Aside0.mk hy219
        clear hy219
        by_cases c3 : (strOfNums y219).size + x3_1.size ≤ 9223372036854775807
        · rw [if_pos c3] at H
          have c3b0 := eq_true c3
          have c3b1 : decide ((strOfNums y219).size + x3_1.size ≤ 9223372036854775807) = true := decide_eq_true c3
          try have c3b2 : (9223372036854775807 < (strOfNums y219).size + x3_1.size) = False := eq_false (Nat.not_lt.2 c3)
          have H' := Aside0.mk H
          clear H
          go_wp2_with (first | ((with_reducible refine gate_dst (N := 14) rfl ?_); refine Kd.R_lit (Kd.int .u8) _ 5 ?hg (N := 14) ?hd (xs := ([(wrap64 (48 + (Int.tmod x0_1 10))) % 256] : List Int)) (inner := [.int .u8 ((wrap64 (48 + (Int.tmod x0_1 10))) % 256)]) (ok := fun _ => True) (okp := fun _ => True) ?hr ?hp (fun _ hk => hk) trivial (Below.refl _ _) (Nat.le_refl _) (by simp) ?_; (case hd => rfl); (case hg => rfl); (case hr => first | (go_simp; done)); (case hp => exact (Reps.one (show Kd.M (Kd.int .u8) _ _ _ ((wrap64 (48 + (Int.tmod x0_1 10))) % 256) [.int .u8 ((wrap64 (48 + (Int.tmod x0_1 10))) % 256)] from rfl) (Reps.none _ _))); intro v220 w4 ho5 hb hg_ hnew_; clear hg_ hnew_; (first | rw [← Ny219.out] at ho5); have n0_ := Aside0.mk (Kd.R_lower ho5 (below_size HB.out)); have n1_ := Aside0.mk (below_step HB.out hb); clear HB; have HO221 := n0_; have HB := n1_; clear n0_ n1_; clear hb ho5; have hcv6 := own_string (P := Tryz.prog) Tryz.underlying81 Tryz.underlying5 Tryz.underlying9 (Kd.own_of_R HO221.out)))
          go_roundg k1
          case measure => have := HK1.out; omega
          case rel => exact ⟨(wrap64 (Int.tdiv x0_1 10)), ((strOfNums y219) ++ x3_1), rfl, rfl, H', ⟨by have := HK1.out; omega⟩, ⟨by exact HB.out⟩⟩
        · rw [if_neg c3] at H
          exact absurd H (by simp)
      · rw [if_neg c2] at H
        have c2b0 : decide (0 < x0_1) = false := decide_eq_false c2
        clear c2
        by_cases c7 : x3_1.toList = ([] : List UInt8)
        · rw [if_pos c7] at H
          have c7b0 : (x3_1.toList == ([] : List UInt8)) = true := beq_iff_eq.mpr c7
          have c7b1 : (x3_1.toList != ([] : List UInt8)) = false := bne_eq_false_iff_eq.mpr c7
          clear c7
          obtain ⟨y222, hy222⟩ : ∃ y_ : List Int, y_ = (([(wrap64 (48 + (Int.tmod x0_1 10))) % 256] : List Int)) := ⟨_, rfl⟩
          replace H : (if (strOfNums y222).size + x3_1.size ≤ 9223372036854775807 then (proofmarkref27_Num.l0 k1 (wrap64 (Int.tdiv x0_1 10)) ((strOfNums y222) ++ x3_1)) else (none)) = some r := by first | (have H2_ := (Option.bind_some _ _).symm.trans H; rw [hy222]; with_reducible exact H2_)
          have Ny222 := Aside0.mk hy222
          clear hy222
          by_cases c8 : (strOfNums y222).size + x3_1.size ≤ 9223372036854775807
          · rw [if_pos c8] at H
            have c8b0 := eq_true c8
            have c8b1 : decide ((strOfNums y222).size + x3_1.size ≤ 9223372036854775807) = true := decide_eq_true c8
            try have c8b2 : (9223372036854775807 < (strOfNums y222).size + x3_1.size) = False := eq_false (Nat.not_lt.2 c8)
            have H' := Aside0.mk H
            clear H
            go_wp2_with (first | ((with_reducible refine gate_dst (N := 14) rfl ?_); refine Kd.R_lit (Kd.int .u8) _ 5 ?hg (N := 14) ?hd (xs := ([(wrap64 (48 + (Int.tmod x0_1 10))) % 256] : List Int)) (inner := [.int .u8 ((wrap64 (48 + (Int.tmod x0_1 10))) % 256)]) (ok := fun _ => True) (okp := fun _ => True) ?hr ?hp (fun _ hk => hk) trivial (Below.refl _ _) (Nat.le_refl _) (by simp) ?_; (case hd => rfl); (case hg => rfl); (case hr => first | (go_simp; done)); (case hp => exact (Reps.one (show Kd.M (Kd.int .u8) _ _ _ ((wrap64 (48 + (Int.tmod x0_1 10))) % 256) [.int .u8 ((wrap64 (48 + (Int.tmod x0_1 10))) % 256)] from rfl) (Reps.none _ _))); intro v223 w9 ho10 hb hg_ hnew_; clear hg_ hnew_; (first | rw [← Ny222.out] at ho10); have n0_ := Aside0.mk (Kd.R_lower ho10 (below_size HB.out)); have n1_ := Aside0.mk (below_step HB.out hb); clear HB; have HO224 := n0_; have HB := n1_; clear n0_ n1_; clear hb ho10; have hcv11 := own_string (P := Tryz.prog) Tryz.underlying81 Tryz.underlying5 Tryz.underlying9 (Kd.own_of_R HO224.out)))
            go_roundg k1
            case measure => have := HK1.out; omega
            case rel => exact ⟨(wrap64 (Int.tdiv x0_1 10)), ((strOfNums y222) ++ x3_1), rfl, rfl, H', ⟨by have := HK1.out; omega⟩, ⟨by exact HB.out⟩⟩
          · rw [if_neg c8] at H
            exact absurd H (by simp)
        · rw [if_neg c7] at H
          have c7b0 : (x3_1.toList == ([] : List UInt8)) = false := beq_eq_false_iff_ne.mpr c7
          have c7b1 : (x3_1.toList != ([] : List UInt8)) = true := bne_iff_ne.mpr c7
          obtain rfl := Option.some.inj H
          go_wp2
          go_ret
          exact ⟨by first | rfl, by exact HB.out⟩

/-! ### proofmarkref27_number: function 72 -/
def proofmarkref27_number.l0 : Nat → ByteArray → Int → Int → Int → Option (Int × Bool)
  | 0, _, _, _, _ => none
  | k + 1, x0, x1, x6, x7 => if x7 < (x0.size : Int) then (if 0 ≤ x7 then (if (bt x0 x7) < 48 then (some (0, false)) else (if (bt x0 x7) > 57 then (some (0, false)) else (if x6 > x1 then (some (0, false)) else (proofmarkref27_number.l0 k x0 x1 (wrap64 ((wrap64 ((wrap64 (10 * x6)) + (wrap64 (bt x0 x7)))) - 48)) (wrap64 (x7 + 1)))))) else (none)) else (if x0.toList = ([] : List UInt8) then (some (x6, false)) else (if x6 ≤ x1 then (if (x0.size : Int) = 1 then (some (x6, true)) else (if 0 < (x0.size : Int) then (some (x6, ((bt x0 0) != 48))) else (none))) else (some (x6, false))))
def proofmarkref27_number.f (k : Nat) (a0 : ByteArray) (a1 : Int) : Option (Int × Bool) := proofmarkref27_number.l0 k a0 a1 0 0
theorem proofmarkref27_number.mono_l : ∀ k, (∀ y0 y1 y2 y3, LeO (proofmarkref27_number.l0 k y0 y1 y2 y3) (proofmarkref27_number.l0 (k + 1) y0 y1 y2 y3))
  | 0 => fun _ _ _ _ r h => by simp [proofmarkref27_number.l0] at h
  | k + 1 => by
    have ih0 := proofmarkref27_number.mono_l k
    · intro y0 y1 y2 y3
      unfold proofmarkref27_number.l0
      repeat' first
      | (with_reducible exact ih0 _ _ _ _)
      | (with_reducible exact LeO.refl _)
      | (with_reducible exact LeO.none _)
      | (with_reducible refine LeO.ite ?_ ?_)
      | (with_reducible refine LeO.bind ?_ (fun _ => ?_))
      | exact ih0 _ _ _ _
      | exact LeO.none _
      | refine LeO.ite ?_ ?_
      | refine LeO.bind ?_ (fun _ => ?_)
theorem proofmarkref27_number.mono : ∀ a0 a1 k, LeO (proofmarkref27_number.f k a0 a1) (proofmarkref27_number.f (k + 1) a0 a1) := by
  intro a0 a1 k
  have ih0 := proofmarkref27_number.mono_l k
  unfold proofmarkref27_number.f
  repeat' first
      | (with_reducible exact ih0 _ _ _ _)
      | (with_reducible exact LeO.refl _)
      | (with_reducible exact LeO.none _)
      | (with_reducible refine LeO.ite ?_ ?_)
      | (with_reducible refine LeO.bind ?_ (fun _ => ?_))
      | exact ih0 _ _ _ _
      | exact LeO.none _
      | refine LeO.ite ?_ ?_
      | refine LeO.bind ?_ (fun _ => ?_)
set_option maxHeartbeats 8000000 in
set_option maxRecDepth 100000 in
theorem proofmarkref27_number.calls (k : Nat) (a0 : ByteArray) (a1 : Int) (r1 : Int) (r2 : Bool) (w : World) (h : proofmarkref27_number.f k a0 a1 = some (r1, r2)) :
    Calls Tryz.prog 72 #[.string a0, .int .i64 a1] w fun e w' => e = .returned (.tuple #[.int .i64 r1, .bool r2]) ∧ Drawn0 w w' := by
  have H : (proofmarkref27_number.l0 k a0 a1 0 0) = some (r1, r2) := h
  clear h
  have H' := Aside0.mk H
  clear H
  go_enter Tryz.func72, Tryz.ntmps72
  go_wp2
  repeat (go_quiet (fail); try go_wp2)
  try simp only [Act.put, List.setIfInBounds_toArray, List.set_cons_succ, List.set_cons_zero]
  go_loopg [6, 7] k (fun kq v6 v7 w' => ∃ (x6_1 : Int) (x7_1 : Int), v6 = .int .i64 x6_1 ∧ v7 = .int .i64 x7_1 ∧ Aside0 (proofmarkref27_number.l0 kq a0 a1 x6_1 x7_1 = some (r1, r2)) ∧ Aside0 (kq ≤ k) ∧ Drawn0 w w')
  case atStart => exact ⟨(0), (0), rfl, rfl, H', ⟨Nat.le_refl _⟩, by repeat (first | exact Drawn0.refl _)⟩
  case round =>
    clear H'
    try clear p2
    obtain ⟨x6_1, x7_1, rfl, rfl, HA, HK1, ⟨m1, rfl⟩⟩ := hrel
    cases gk with
    | zero => exact absurd HA.out (by simp [proofmarkref27_number.l0])
    | succ k1 =>
      have H := HA.out
      clear HA
      simp only [proofmarkref27_number.l0] at H
      by_cases c3 : x7_1 < (a0.size : Int)
      · rw [if_pos c3] at H
        have c3b0 : decide (x7_1 < (a0.size : Int)) = true := decide_eq_true c3
        clear c3
        by_cases c4 : 0 ≤ x7_1
        · rw [if_pos c4] at H
          have c4b0 : decide (0 ≤ x7_1) = true := decide_eq_true c4
          clear c4
          by_cases c6 : (bt a0 x7_1) < 48
          · rw [if_pos c6] at H
            have c6b0 : decide ((bt a0 x7_1) < 48) = true := decide_eq_true c6
            clear c6
            simp only [Option.some.injEq, Prod.mk.injEq] at H
            obtain ⟨rfl, rfl⟩ := H
            have p5 : 0 ≤ (x7_1 : Int) := of_decide_eq_true (by first | (with_reducible assumption))
            have q5 : x7_1 < (a0.size : Int) := of_decide_eq_true (by first | (with_reducible assumption))
            have hx5 := bt_at a0 x7_1
            replace p5 := eq_true p5
            replace q5 := eq_true q5
            go_wp2
            repeat (go_quiet (fail); try go_wp2)
            go_ret2
            exact ⟨by first | rfl, by repeat (first | exact Drawn0.refl _ | apply Drawn0.step)⟩
          · rw [if_neg c6] at H
            have c6b0 : decide ((bt a0 x7_1) < 48) = false := decide_eq_false c6
            clear c6
            by_cases c8 : (bt a0 x7_1) > 57
            · rw [if_pos c8] at H
              have c8b0 : decide (57 < (bt a0 x7_1)) = true := decide_eq_true c8
              clear c8
              simp only [Option.some.injEq, Prod.mk.injEq] at H
              obtain ⟨rfl, rfl⟩ := H
              have p5 : 0 ≤ (x7_1 : Int) := of_decide_eq_true (by first | (with_reducible assumption))
              have q5 : x7_1 < (a0.size : Int) := of_decide_eq_true (by first | (with_reducible assumption))
              have hx5 := bt_at a0 x7_1
              replace p5 := eq_true p5
              replace q5 := eq_true q5
              have p7 : 0 ≤ (x7_1 : Int) := of_decide_eq_true (by first | (with_reducible assumption))
              have q7 : x7_1 < (a0.size : Int) := of_decide_eq_true (by first | (with_reducible assumption))
              have hx7 := bt_at a0 x7_1
              replace p7 := eq_true p7
              replace q7 := eq_true q7
              go_wp2
              repeat (go_quiet (fail); try go_wp2)
              go_ret2
              exact ⟨by first | rfl, by repeat (first | exact Drawn0.refl _ | apply Drawn0.step)⟩
            · rw [if_neg c8] at H
              have c8b0 : decide (57 < (bt a0 x7_1)) = false := decide_eq_false c8
              clear c8
              by_cases c9 : x6_1 > a1
              · rw [if_pos c9] at H
                have c9b0 : decide (a1 < x6_1) = true := decide_eq_true c9
                clear c9
                simp only [Option.some.injEq, Prod.mk.injEq] at H
                obtain ⟨rfl, rfl⟩ := H
                have p5 : 0 ≤ (x7_1 : Int) := of_decide_eq_true (by first | (with_reducible assumption))
                have q5 : x7_1 < (a0.size : Int) := of_decide_eq_true (by first | (with_reducible assumption))
                have hx5 := bt_at a0 x7_1
                replace p5 := eq_true p5
                replace q5 := eq_true q5
                have p7 : 0 ≤ (x7_1 : Int) := of_decide_eq_true (by first | (with_reducible assumption))
                have q7 : x7_1 < (a0.size : Int) := of_decide_eq_true (by first | (with_reducible assumption))
                have hx7 := bt_at a0 x7_1
                replace p7 := eq_true p7
                replace q7 := eq_true q7
                go_wp2
                repeat (go_quiet (fail); try go_wp2)
                go_ret2
                exact ⟨by first | rfl, by repeat (first | exact Drawn0.refl _ | apply Drawn0.step)⟩
              · rw [if_neg c9] at H
                have c9b0 : decide (a1 < x6_1) = false := decide_eq_false c9
                clear c9
                have H' := Aside0.mk H
                clear H
                have p5 : 0 ≤ (x7_1 : Int) := of_decide_eq_true (by first | (with_reducible assumption))
                have q5 : x7_1 < (a0.size : Int) := of_decide_eq_true (by first | (with_reducible assumption))
                have hx5 := bt_at a0 x7_1
                replace p5 := eq_true p5
                replace q5 := eq_true q5
                have p7 : 0 ≤ (x7_1 : Int) := of_decide_eq_true (by first | (with_reducible assumption))
                have q7 : x7_1 < (a0.size : Int) := of_decide_eq_true (by first | (with_reducible assumption))
                have hx7 := bt_at a0 x7_1
                replace p7 := eq_true p7
                replace q7 := eq_true q7
                have p10 : 0 ≤ (x7_1 : Int) := of_decide_eq_true (by first | (with_reducible assumption))
                have q10 : x7_1 < (a0.size : Int) := of_decide_eq_true (by first | (with_reducible assumption))
                have hx10 := bt_at a0 x7_1
                replace p10 := eq_true p10
                replace q10 := eq_true q10
                go_wp2
                repeat (go_quiet (fail); try go_wp2)
                go_roundg k1
                case measure => have := HK1.out; omega
                case rel => exact ⟨(wrap64 ((wrap64 ((wrap64 (10 * x6_1)) + (wrap64 (bt a0 x7_1)))) - 48)), (wrap64 (x7_1 + 1)), rfl, rfl, H', ⟨by have := HK1.out; omega⟩, by repeat (first | exact Drawn0.refl _ | apply Drawn0.step)⟩
        · rw [if_neg c4] at H
          exact absurd H (by simp)
      · rw [if_neg c3] at H
        have c3b0 : decide (x7_1 < (a0.size : Int)) = false := decide_eq_false c3
        clear c3
        by_cases c11 : a0.toList = ([] : List UInt8)
        · rw [if_pos c11] at H
          have c11b0 : (a0.toList == ([] : List UInt8)) = true := beq_iff_eq.mpr c11
          have c11b1 : (a0.toList != ([] : List UInt8)) = false := bne_eq_false_iff_eq.mpr c11
          clear c11
          simp only [Option.some.injEq, Prod.mk.injEq] at H
          obtain ⟨rfl, rfl⟩ := H
          go_wp2
          repeat (go_quiet (fail); try go_wp2)
          go_ret2
          exact ⟨by first | rfl, by repeat (first | exact Drawn0.refl _ | apply Drawn0.step)⟩
        · rw [if_neg c11] at H
          have c11b0 : (a0.toList == ([] : List UInt8)) = false := beq_eq_false_iff_ne.mpr c11
          have c11b1 : (a0.toList != ([] : List UInt8)) = true := bne_iff_ne.mpr c11
          by_cases c12 : x6_1 ≤ a1
          · rw [if_pos c12] at H
            have c12b0 : decide (x6_1 ≤ a1) = true := decide_eq_true c12
            clear c12
            by_cases c13 : (a0.size : Int) = 1
            · rw [if_pos c13] at H
              have c13b0 : ((a0.size : Int) == 1) = true := beq_iff_eq.mpr c13
              have c13b1 : ((a0.size : Int) != 1) = false := bne_eq_false_iff_eq.mpr c13
              clear c13
              simp only [Option.some.injEq, Prod.mk.injEq] at H
              obtain ⟨rfl, rfl⟩ := H
              go_wp2
              repeat (go_quiet (fail); try go_wp2)
              go_ret2
              exact ⟨by first | rfl, by repeat (first | exact Drawn0.refl _ | apply Drawn0.step)⟩
            · rw [if_neg c13] at H
              have c13b0 : ((a0.size : Int) == 1) = false := beq_eq_false_iff_ne.mpr c13
              have c13b1 : ((a0.size : Int) != 1) = true := bne_iff_ne.mpr c13
              by_cases c14 : 0 < (a0.size : Int)
              · rw [if_pos c14] at H
                have c14b0 : decide (0 < (a0.size : Int)) = true := decide_eq_true c14
                have c14b1 : decide (0 < a0.size) = true := decide_eq_true (by omega)
                clear c14
                simp only [Option.some.injEq, Prod.mk.injEq] at H
                obtain ⟨rfl, rfl⟩ := H
                have p15 : 0 ≤ (0 : Int) := (by omega)
                have q15 : 0 < a0.size := (by have : (0 : Int) < (a0.size : Int) := of_decide_eq_true (by first | (with_reducible assumption)); omega)
                have hx15 : ∀ h : 0 < a0.size, ((a0[0]'h).toNat : Int) = bt a0 0 := bt_at a0 0
                clear p15
                have qi15 : (0 < (a0.size : Int)) = True := eq_true (of_decide_eq_true (by first | (with_reducible assumption)))
                replace q15 := eq_true q15
                go_wp2
                repeat (go_quiet (fail); try go_wp2)
                go_ret2
                exact ⟨by first | rfl, by repeat (first | exact Drawn0.refl _ | apply Drawn0.step)⟩
              · rw [if_neg c14] at H
                exact absurd H (by simp)
          · rw [if_neg c12] at H
            have c12b0 : decide (x6_1 ≤ a1) = false := decide_eq_false c12
            clear c12
            simp only [Option.some.injEq, Prod.mk.injEq] at H
            obtain ⟨rfl, rfl⟩ := H
            go_wp2
            repeat (go_quiet (fail); try go_wp2)
            go_ret2
            exact ⟨by first | rfl, by repeat (first | exact Drawn0.refl _ | apply Drawn0.step)⟩

end Go.Proofs.YtmfekngjhiofaaaGreatDoor.Q
