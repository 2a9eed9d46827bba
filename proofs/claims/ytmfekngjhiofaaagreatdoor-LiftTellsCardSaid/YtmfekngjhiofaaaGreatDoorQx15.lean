-- Written by the session's own program (wip/tools/ownprint.py) for this claim: functions of the translation as plain Lean functions, and their contracts.
import Derived.Test.YtmfekngjhiofaaaGreatDoorQx0
import Derived.Test.YtmfekngjhiofaaaGreatDoorQx12
import Derived.Test.YtmfekngjhiofaaaGreatDoorQx13
import Derived.Test.YtmfekngjhiofaaaGreatDoorQx14
namespace Go.Proofs.YtmfekngjhiofaaaGreatDoor.Q
open Go.RowKit Go.Proofs.YtmfekngjhiofaaaGreatDoorW.PrintWords Go.Proofs.YtmfekngjhiofaaaGreatDoorW.PrintLast Go.Proofs.YtmfekngjhiofaaaGreatDoorW.PrintMore
attribute [local go_sem] max2_int min2_int max_two min_two max_three min_three max_four min_four   -- for this text's walks alone
set_option linter.unusedVariables false
set_option linter.unusedSimpArgs false

/-! ### proofmarkref27_Back: function 10 -/
mutual
def proofmarkref27_Back.j0 : Nat → List ByteArray → List (List Int) → Bool → List (S125) → List (S72) → List (S114) → List (S105) → List (S72) → Option ((List (List Int)) × Bool)
  | 0, _, _, _, _, _, _, _, _ => none
  | k + 1, x6, x7, x25, x247000, x247001, x247002, x247003, x247004 => if x25 = true then (some (([] : List (List Int)), false)) else (proofmarkref27_Back.l0 k x6 x7 0 x247000 x247001 x247002 x247003 x247004)
def proofmarkref27_Back.l0 : Nat → List ByteArray → List (List Int) → Int → List (S125) → List (S72) → List (S114) → List (S105) → List (S72) → Option ((List (List Int)) × Bool)
  | 0, _, _, _, _, _, _, _, _ => none
  | k + 1, x6, x7, x8, x247000, x247001, x247002, x247003, x247004 => if x8 < (wrap64 ((x6.length : Int) - 1)) then (if 0 ≤ x8 then (if x8 < (x6.length : Int) then ((proofmarkref27_line.f k x247000 x247001 x247002 x247003 x247004 x8 (rdOf ByteArray.empty x6 x8)).bind fun bt256 => (if bt256.2 = true then (if x7.length < 5864062014805 then (proofmarkref27_Back.l0 k x6 (x7 ++ [bt256.1]) (wrap64 (x8 + 1)) x247000 x247001 x247002 x247003 x247004) else (none)) else (some (([] : List (List Int)), false)))) else (none)) else (none)) else (some (x7, true))
end
def proofmarkref27_Back.f (k : Nat) (l0_0 : List (S125)) (l0_1 : List (S72)) (l0_2 : List (S114)) (l0_3 : List (S105)) (l0_4 : List (S72)) (a1 : ByteArray) : Option ((List (List Int)) × Bool) := (proofmarkref27_cut.f k a1 (⟨#[10]⟩ : ByteArray)).bind fun t247 => ((some (([] : List (List Int)) : List (List Int))).bind fun y250 => ((proofmarkref27_Named.f k l0_0 l0_1 l0_2 l0_3 l0_4).bind fun t253 => (if t253 = true then (if 0 ≤ (wrap64 ((t247.length : Int) - 1)) then (if (wrap64 ((t247.length : Int) - 1)) < (t247.length : Int) then (proofmarkref27_Back.j0 k t247 y250 ((rdOf ByteArray.empty t247 (wrap64 ((t247.length : Int) - 1))).toList != ([] : List UInt8)) l0_0 l0_1 l0_2 l0_3 l0_4) else (none)) else (none)) else (proofmarkref27_Back.j0 k t247 y250 true l0_0 l0_1 l0_2 l0_3 l0_4))))
theorem proofmarkref27_Back.mono_l : ∀ k, (∀ y0 y1 y2 y3 y4 y5 y6 y7, LeO (proofmarkref27_Back.j0 k y0 y1 y2 y3 y4 y5 y6 y7) (proofmarkref27_Back.j0 (k + 1) y0 y1 y2 y3 y4 y5 y6 y7)) ∧ (∀ y0 y1 y2 y3 y4 y5 y6 y7, LeO (proofmarkref27_Back.l0 k y0 y1 y2 y3 y4 y5 y6 y7) (proofmarkref27_Back.l0 (k + 1) y0 y1 y2 y3 y4 y5 y6 y7))
  | 0 => ⟨fun _ _ _ _ _ _ _ _ r h => by simp [proofmarkref27_Back.j0] at h, fun _ _ _ _ _ _ _ _ r h => by simp [proofmarkref27_Back.l0] at h⟩
  | k + 1 => by
    obtain ⟨ih0, ih1⟩ := proofmarkref27_Back.mono_l k
    refine ⟨?_, ?_⟩
    · intro y0 y1 y2 y3 y4 y5 y6 y7
      unfold proofmarkref27_Back.j0
      repeat' first
      | (with_reducible exact ih0 _ _ _ _ _ _ _ _)
      | (with_reducible exact ih1 _ _ _ _ _ _ _ _)
      | (with_reducible exact proofmarkref27_Named.mono _ _ _ _ _ _)
      | (with_reducible exact proofmarkref27_cut.mono _ _ _)
      | (with_reducible exact proofmarkref27_line.mono _ _ _ _ _ _ _ _)
      | (with_reducible exact LeO.refl _)
      | (with_reducible exact LeO.none _)
      | (with_reducible refine LeO.ite ?_ ?_)
      | (with_reducible refine LeO.bind ?_ (fun _ => ?_))
      | exact ih0 _ _ _ _ _ _ _ _
      | exact ih1 _ _ _ _ _ _ _ _
      | exact proofmarkref27_Named.mono _ _ _ _ _ _
      | exact proofmarkref27_cut.mono _ _ _
      | exact proofmarkref27_line.mono _ _ _ _ _ _ _ _
      | exact LeO.none _
      | refine LeO.ite ?_ ?_
      | refine LeO.bind ?_ (fun _ => ?_)
    · intro y0 y1 y2 y3 y4 y5 y6 y7
      unfold proofmarkref27_Back.l0
      repeat' first
      | (with_reducible exact ih0 _ _ _ _ _ _ _ _)
      | (with_reducible exact ih1 _ _ _ _ _ _ _ _)
      | (with_reducible exact proofmarkref27_Named.mono _ _ _ _ _ _)
      | (with_reducible exact proofmarkref27_cut.mono _ _ _)
      | (with_reducible exact proofmarkref27_line.mono _ _ _ _ _ _ _ _)
      | (with_reducible exact LeO.refl _)
      | (with_reducible exact LeO.none _)
      | (with_reducible refine LeO.ite ?_ ?_)
      | (with_reducible refine LeO.bind ?_ (fun _ => ?_))
      | exact ih0 _ _ _ _ _ _ _ _
      | exact ih1 _ _ _ _ _ _ _ _
      | exact proofmarkref27_Named.mono _ _ _ _ _ _
      | exact proofmarkref27_cut.mono _ _ _
      | exact proofmarkref27_line.mono _ _ _ _ _ _ _ _
      | exact LeO.none _
      | refine LeO.ite ?_ ?_
      | refine LeO.bind ?_ (fun _ => ?_)
theorem proofmarkref27_Back.mono : ∀ a0 a1 a2 a3 a4 a5 k, LeO (proofmarkref27_Back.f k a0 a1 a2 a3 a4 a5) (proofmarkref27_Back.f (k + 1) a0 a1 a2 a3 a4 a5) := by
  intro a0 a1 a2 a3 a4 a5 k
  obtain ⟨ih0, ih1⟩ := proofmarkref27_Back.mono_l k
  unfold proofmarkref27_Back.f
  repeat' first
      | (with_reducible exact ih0 _ _ _ _ _ _ _ _)
      | (with_reducible exact ih1 _ _ _ _ _ _ _ _)
      | (with_reducible exact proofmarkref27_Named.mono _ _ _ _ _ _)
      | (with_reducible exact proofmarkref27_cut.mono _ _ _)
      | (with_reducible exact proofmarkref27_line.mono _ _ _ _ _ _ _ _)
      | (with_reducible exact LeO.refl _)
      | (with_reducible exact LeO.none _)
      | (with_reducible refine LeO.ite ?_ ?_)
      | (with_reducible refine LeO.bind ?_ (fun _ => ?_))
      | exact ih0 _ _ _ _ _ _ _ _
      | exact ih1 _ _ _ _ _ _ _ _
      | exact proofmarkref27_Named.mono _ _ _ _ _ _
      | exact proofmarkref27_cut.mono _ _ _
      | exact proofmarkref27_line.mono _ _ _ _ _ _ _ _
      | exact LeO.none _
      | refine LeO.ite ?_ ?_
      | refine LeO.bind ?_ (fun _ => ?_)
def proofmarkref27_Back.T8 : Bool × List (List Nat × List Nat) := (true, [([], []), ([], []), ([], []), ([], []), ([2, 3], [2, 3]), ([4], [4]), ([0, 1, 5], [0, 1, 5]), ([6], [6]), ([7], [7]), ([7], [7]), ([8, 6, 0, 1, 2, 3, 4, 5, 6, 7, 8], [8]), ([9, 10, 0, 1, 2, 3, 4, 5, 6, 7, 8, 9, 10], [9])])
def proofmarkref27_Back.B8 : List Nat := [0, 0, 0, 0, 12, 28, 63, 127, 255, 255, 511, 2047]
theorem proofmarkref27_Back.tab8 : rtab .any (opsOf Tryz.f10 8) = proofmarkref27_Back.T8 := by kernel_rfl
theorem proofmarkref27_Back.bits8 : waitsOk proofmarkref27_Back.T8.2 proofmarkref27_Back.B8 = true := by kernel_rfl
set_option maxHeartbeats 8000000 in
set_option maxRecDepth 100000 in
theorem proofmarkref27_Back.calls (k : Nat) (A0_0 : Option Addr) (c0_0 : Nat) (l0_0 : List (S125)) (A0_1 : Option Addr) (c0_1 : Nat) (l0_1 : List (S72)) (A0_2 : Option Addr) (c0_2 : Nat) (l0_2 : List (S114)) (A0_3 : Option Addr) (c0_3 : Nat) (l0_3 : List (S105)) (A0_4 : Option Addr) (c0_4 : Nat) (l0_4 : List (S72)) (a1 : ByteArray) (r1 : List (List Int)) (r2 : Bool) (w : World) (hr0_0 : Kd.C k125 w A0_0 l0_0.length l0_0) (hc0_0 : l0_0.length ≤ c0_0) (hr0_1 : Kd.C k72 w A0_1 l0_1.length l0_1) (hc0_1 : l0_1.length ≤ c0_1) (hr0_2 : Kd.C k114 w A0_2 l0_2.length l0_2) (hc0_2 : l0_2.length ≤ c0_2) (hr0_3 : Kd.C k105 w A0_3 l0_3.length l0_3) (hc0_3 : l0_3.length ≤ c0_3) (hr0_4 : Kd.C k72 w A0_4 l0_4.length l0_4) (hc0_4 : l0_4.length ≤ c0_4) (h : proofmarkref27_Back.f k l0_0 l0_1 l0_2 l0_3 l0_4 a1 = some (r1, r2)) :
    Calls Tryz.prog 10 #[.agg #[.slice A0_0 l0_0.length c0_0, .slice A0_1 l0_1.length c0_1, .slice A0_2 l0_2.length c0_2, .slice A0_3 l0_3.length c0_3, .slice A0_4 l0_4.length c0_4], .string a1] w fun e w' => ∃ v0_ : Value, e = .returned (.tuple #[v0_, .bool r2]) ∧ Kd.S (Kd.slice 3 (Kd.int .i64)) 37 w' w.heap.size (fun _ => True) v0_ r1 ∧ Below w.heap.size w w' := by
  have hu27 := Tryz.underlying27
  have HR0_0 := Aside0.mk hr0_0
  have HC0_0 := Aside0.mk hc0_0
  clear hr0_0 hc0_0
  have HR0_1 := Aside0.mk hr0_1
  have HC0_1 := Aside0.mk hc0_1
  clear hr0_1 hc0_1
  have HR0_2 := Aside0.mk hr0_2
  have HC0_2 := Aside0.mk hc0_2
  clear hr0_2 hc0_2
  have HR0_3 := Aside0.mk hr0_3
  have HC0_3 := Aside0.mk hc0_3
  clear hr0_3 hc0_3
  have HR0_4 := Aside0.mk hr0_4
  have HC0_4 := Aside0.mk hc0_4
  clear hr0_4 hc0_4
  have HB := Aside0.mk (Below.refl w.heap.size w)
  have H : ((proofmarkref27_cut.f k a1 (⟨#[10]⟩ : ByteArray)).bind fun t247 => ((some (([] : List (List Int)) : List (List Int))).bind fun y250 => ((proofmarkref27_Named.f k l0_0 l0_1 l0_2 l0_3 l0_4).bind fun t253 => (if t253 = true then (if 0 ≤ (wrap64 ((t247.length : Int) - 1)) then (if (wrap64 ((t247.length : Int) - 1)) < (t247.length : Int) then (proofmarkref27_Back.j0 k t247 y250 ((rdOf ByteArray.empty t247 (wrap64 ((t247.length : Int) - 1))).toList != ([] : List UInt8)) l0_0 l0_1 l0_2 l0_3 l0_4) else (none)) else (none)) else (proofmarkref27_Back.j0 k t247 y250 true l0_0 l0_1 l0_2 l0_3 l0_4))))) = some (r1, r2) := h
  clear h
  replace H := Option.bind_eq_some_iff.mp H
  obtain ⟨t247, A30, H⟩ := H
  replace H : ((some (([] : List (List Int)) : List (List Int))).bind fun y250 => ((proofmarkref27_Named.f k l0_0 l0_1 l0_2 l0_3 l0_4).bind fun t253 => (if t253 = true then (if 0 ≤ (wrap64 ((t247.length : Int) - 1)) then (if (wrap64 ((t247.length : Int) - 1)) < (t247.length : Int) then (proofmarkref27_Back.j0 k t247 y250 ((rdOf ByteArray.empty t247 (wrap64 ((t247.length : Int) - 1))).toList != ([] : List UInt8)) l0_0 l0_1 l0_2 l0_3 l0_4) else (none)) else (none)) else (proofmarkref27_Back.j0 k t247 y250 true l0_0 l0_1 l0_2 l0_3 l0_4)))) = some (r1, r2) := H
  have A3 := Aside0.mk A30
  clear A30
  obtain ⟨y250, hy250⟩ : ∃ y_ : List (List Int), y_ = (([] : List (List Int))) := ⟨_, rfl⟩
  replace H : ((proofmarkref27_Named.f k l0_0 l0_1 l0_2 l0_3 l0_4).bind fun t253 => (if t253 = true then (if 0 ≤ (wrap64 ((t247.length : Int) - 1)) then (if (wrap64 ((t247.length : Int) - 1)) < (t247.length : Int) then (proofmarkref27_Back.j0 k t247 y250 ((rdOf ByteArray.empty t247 (wrap64 ((t247.length : Int) - 1))).toList != ([] : List UInt8)) l0_0 l0_1 l0_2 l0_3 l0_4) else (none)) else (none)) else (proofmarkref27_Back.j0 k t247 y250 true l0_0 l0_1 l0_2 l0_3 l0_4))) = some (r1, r2) := by first | (have H2_ := (Option.bind_some _ _).symm.trans H; rw [hy250]; with_reducible exact H2_)
  have Ny250 := Aside0.mk hy250
  clear hy250
  have HC4 := Aside0.mk H
  clear H
  go_enter Tryz.func10, Tryz.ntmps10
  go_upto_region 3 with (first | ((with_reducible refine gate_dst (N := 2) rfl ?_); (try (refine gate_guard (by rfl) ?_; dsimp only)); refine box_event ?hg (N := 2) ?hd (cs := #[.slice A0_0 l0_0.length c0_0, .slice A0_1 l0_1.length c0_1, .slice A0_2 l0_2.length c0_2, .slice A0_3 l0_3.length c0_3, .slice A0_4 l0_4.length c0_4]) (t := 27) ?hr ?_; (case hd => rfl); (case hg => rfl); (case hr => first | (go_simp; done)); intro gb246 hg w5 hbox hb; have n0_ := Aside0.mk (below_step HB.out hb); have n1_ := Aside0.mk (hbox); have n2_ := Aside0.mk ((by rw [hg]; exact (below_size HB.out) : w.heap.size ≤ gb246)); have n3_ := Aside0.mk ((by rw [hg]; exact (below_size HB.out) : w.heap.size ≤ gb246)); clear HB; have HB := n0_; have BK246 := n1_; have GW246 := n2_; have GE246 := n3_; clear n0_ n1_ n2_ n3_; clear hb hbox hg) | ((with_reducible refine gate_callee (f := 38) rfl ?_); refine goesL_ (some 12) rfl rfl Tryz.func38 (by kernel_rfl) rfl #[.string a1, .string (⟨#[10]⟩ : ByteArray)] rfl (by (try simp only [List.map_toArray, List.map_cons, List.map_nil]); first | rfl) ?_; (with_reducible refine (proofmarkref27_cut.calls k a1 (⟨#[10]⟩ : ByteArray) t247 _ A3.out).mono ?_); rintro e w6 ⟨v248, rfl, ho0, hb⟩; refine ⟨_, rfl, ?_⟩; have n0_ := Aside0.mk (Kd.R_lower ho0 (below_size HB.out)); have n1_ := Aside0.mk (blk_below BK246.out hb); have n2_ := Aside0.mk (below_step HB.out hb); clear BK246; clear HB; have HO249 := n0_; have BK246 := n1_; have HB := n2_; clear n0_ n1_ n2_; (try clear hb); (try clear hb2); (try clear hk); (try clear hi); (try clear ho0)) | ((with_reducible refine gate_dst (N := 13) rfl ?_); (try (refine gate_guard (by rfl) ?_; dsimp only)); refine Kd.S_lit (Kd.slice 3 (Kd.int .i64)) _ 37 ?hg (N := 13) ?hd (xs := ([] : List (List Int))) (inner := []) (ok := fun _ => True) (okp := fun _ => True) ?hr ?hp (fun _ hk => hk) trivial (Below.refl _ _) (Nat.le_refl _) (by simp) ?_; (case hd => rfl); (case hg => rfl); (case hr => first | (go_simp; done)); (case hp => exact (Reps.none _ _)); intro v251 w7 ho8 hb hg_ hnew_; clear hg_ hnew_; (first | rw [← Ny250.out] at ho8); have n0_ := Aside0.mk (Kd.R_below HO249.out hb); have n1_ := Aside0.mk (Kd.S_lower ho8 (below_size HB.out)); have n2_ := Aside0.mk (blk_below BK246.out hb); have n3_ := Aside0.mk (below_step HB.out hb); clear HO249; clear BK246; clear HB; have HO249 := n0_; have HO252 := n1_; have BK246 := n2_; have HB := n3_; clear n0_ n1_ n2_ n3_; clear hb ho8))
  (try simp only [Act.put, List.setIfInBounds_toArray, List.set_cons_zero, List.set_cons_succ])
  go_cut [25] (fun v25 wc => ∃ (kq : Nat) (x25_3 : Bool), v25 = .bool x25_3 ∧ Aside0 (proofmarkref27_Back.j0 kq t247 y250 x25_3 l0_0 l0_1 l0_2 l0_3 l0_4 = some (r1, r2)) ∧ Aside0 (kq ≤ k) ∧ Aside0 (Kd.R Kd.string 9 wc w.heap.size (fun _ => True) v248 t247) ∧ Aside0 (Kd.S (Kd.slice 3 (Kd.int .i64)) 37 wc w.heap.size (fun _ => True) v251 y250) ∧ Aside0 (wc.heap[gb246]? = some (.cells #[(.slice A0_0 l0_0.length c0_0), (.slice A0_1 l0_1.length c0_1), (.slice A0_2 l0_2.length c0_2), (.slice A0_3 l0_3.length c0_3), (.slice A0_4 l0_4.length c0_4)] 27 (0, 0))) ∧ Aside0 (Below w.heap.size w wc))
  case first =>
    have H := HC4.out
    clear HC4
    replace H := Option.bind_eq_some_iff.mp H
    obtain ⟨t253, A90, H⟩ := H
    replace H : (if t253 = true then (if 0 ≤ (wrap64 ((t247.length : Int) - 1)) then (if (wrap64 ((t247.length : Int) - 1)) < (t247.length : Int) then (proofmarkref27_Back.j0 k t247 y250 ((rdOf ByteArray.empty t247 (wrap64 ((t247.length : Int) - 1))).toList != ([] : List UInt8)) l0_0 l0_1 l0_2 l0_3 l0_4) else (none)) else (none)) else (proofmarkref27_Back.j0 k t247 y250 true l0_0 l0_1 l0_2 l0_3 l0_4)) = some (r1, r2) := H
    have A9 := Aside0.mk A90
    clear A90
    by_cases c10 : t253 = true
    · subst c10
      have H1 : (if 0 ≤ (wrap64 ((t247.length : Int) - 1)) then (if (wrap64 ((t247.length : Int) - 1)) < (t247.length : Int) then (proofmarkref27_Back.j0 k t247 y250 ((rdOf ByteArray.empty t247 (wrap64 ((t247.length : Int) - 1))).toList != ([] : List UInt8)) l0_0 l0_1 l0_2 l0_3 l0_4) else (none)) else (none)) = some (r1, r2) := by rw [if_pos rfl] at H; exact H
      clear H
      have H := H1
      clear H1
      obtain ⟨ji11, hji11⟩ : ∃ j_ : Int, (wrap64 ((t247.length : Int) - 1)) = j_ := ⟨_, rfl⟩
      replace H : (if 0 ≤ (ji11) then (if (ji11) < (t247.length : Int) then (proofmarkref27_Back.j0 k t247 y250 ((rdOf ByteArray.empty t247 (ji11)).toList != ([] : List UInt8)) l0_0 l0_1 l0_2 l0_3 l0_4) else (none)) else (none)) = some (r1, r2) := by first | (rw [hji11] at H; exact H)
      (try rw [hji11] at A9)
      have hji11w : (IntKind.i64.wrap ((t247.length : Int) - 1)) = ji11 := (i64_w _).trans hji11
      by_cases c12 : 0 ≤ (ji11)
      · rw [if_pos c12] at H
        have c12b0 : decide (0 ≤ (ji11)) = true := decide_eq_true c12
        clear c12
        (first | skip)
        by_cases c13 : (ji11) < (t247.length : Int)
        · rw [if_pos c13] at H
          have c13b0 : decide ((ji11) < (t247.length : Int)) = true := decide_eq_true c13
          clear c13
          have H' := Aside0.mk H
          clear H
          have hcz14_0 : w7.cell? ⟨gb246, 0, none⟩ = some (.slice A0_0 l0_0.length c0_0) := (blk_cell BK246.out 0).trans rfl
          have hcz14_1 : w7.cell? ⟨gb246, 1, none⟩ = some (.slice A0_1 l0_1.length c0_1) := (blk_cell BK246.out 1).trans rfl
          have hcz14_2 : w7.cell? ⟨gb246, 2, none⟩ = some (.slice A0_2 l0_2.length c0_2) := (blk_cell BK246.out 2).trans rfl
          have hcz14_3 : w7.cell? ⟨gb246, 3, none⟩ = some (.slice A0_3 l0_3.length c0_3) := (blk_cell BK246.out 3).trans rfl
          have hcz14_4 : w7.cell? ⟨gb246, 4, none⟩ = some (.slice A0_4 l0_4.length c0_4) := (blk_cell BK246.out 4).trans rfl
          have hfz14_0 := blk_frozen BK246.out 0
          have hfz14_1 := blk_frozen BK246.out 1
          have hfz14_2 := blk_frozen BK246.out 2
          have hfz14_3 := blk_frozen BK246.out 3
          have hfz14_4 := blk_frozen BK246.out 4
          go_wp2_with (first | ((with_reducible refine gate_callee (f := 39) rfl ?_); refine goesL_ (some 15) rfl rfl Tryz.func39 (by kernel_rfl) rfl #[.agg #[.slice A0_0 l0_0.length c0_0, .slice A0_1 l0_1.length c0_1, .slice A0_2 l0_2.length c0_2, .slice A0_3 l0_3.length c0_3, .slice A0_4 l0_4.length c0_4]] rfl (by (try simp only [List.map_toArray, List.map_cons, List.map_nil]); first | rfl) ?_; (with_reducible refine (proofmarkref27_Named.calls k _ _ l0_0 _ _ l0_1 _ _ l0_2 _ _ l0_3 _ _ l0_4 true _ ?side1 ?side2 ?side3 ?side4 ?side5 ?side6 ?side7 ?side8 ?side9 ?side10 A9.out).mono ?_); (case side1 => repeat (first | exact (Kd.C_below HR0_0.out HB.out))); (case side2 => exact HC0_0.out); (case side3 => repeat (first | exact (Kd.C_below HR0_1.out HB.out))); (case side4 => exact HC0_1.out); (case side5 => repeat (first | exact (Kd.C_below HR0_2.out HB.out))); (case side6 => exact HC0_2.out); (case side7 => repeat (first | exact (Kd.C_below HR0_3.out HB.out))); (case side8 => exact HC0_3.out); (case side9 => repeat (first | exact (Kd.C_below HR0_4.out HB.out))); (case side10 => exact HC0_4.out); rintro e w15 ⟨rfl, hb⟩; refine ⟨_, rfl, ?_⟩; have n0_ := Aside0.mk (Kd.R_below HO249.out hb); have n1_ := Aside0.mk (Kd.S_below HO252.out hb); have n2_ := Aside0.mk (blk_below BK246.out hb); have n3_ := Aside0.mk (below_step HB.out hb); clear HO249; clear HO252; clear BK246; clear HB; have HO249 := n0_; have HO252 := n1_; have BK246 := n2_; have HB := n3_; clear n0_ n1_ n2_ n3_; (try clear hb); (try clear hb2); (try clear hk); (try clear hi); obtain ⟨Ao16, co16, eo16⟩ := Kd.R_slice HO249.out; subst eo16; have p254 : 0 ≤ ((ji11) : Int) := of_decide_eq_true (by first | (with_reducible assumption)); have q254 : (ji11) < (t247.length : Int) := of_decide_eq_true (by first | (with_reducible assumption)); obtain ⟨ad254, e254, hx254_0⟩ := Kd.at_string (Kd.R_reads' HO249.out).2.2 (ji11) p254 q254; cases e254; replace p254 := eq_true p254; replace q254 := eq_true q254))
          go_meet
          case rel => exact ⟨_, (((rdOf ByteArray.empty t247 (ji11)).toList != ([] : List UInt8))), (by first | (simp only [← hji11] <;> (first | (generalize ByteArray.toList _ = l_; cases l_ <;> rfl)))), H', ⟨by first | omega⟩, ⟨by exact HO249.out⟩, ⟨by exact HO252.out⟩, ⟨by exact BK246.out⟩, ⟨by exact HB.out⟩⟩
        · rw [if_neg c13] at H
          exact absurd H (by simp)
      · rw [if_neg c12] at H
        exact absurd H (by simp)
    · replace c10 := Bool.eq_false_iff.mpr c10
      subst c10
      have H1 : (proofmarkref27_Back.j0 k t247 y250 true l0_0 l0_1 l0_2 l0_3 l0_4) = some (r1, r2) := by rw [if_neg (show ¬ (false = true) by decide)] at H; exact H
      clear H
      have H := H1
      clear H1
      have H' := Aside0.mk H
      clear H
      have hcz17_0 : w7.cell? ⟨gb246, 0, none⟩ = some (.slice A0_0 l0_0.length c0_0) := (blk_cell BK246.out 0).trans rfl
      have hcz17_1 : w7.cell? ⟨gb246, 1, none⟩ = some (.slice A0_1 l0_1.length c0_1) := (blk_cell BK246.out 1).trans rfl
      have hcz17_2 : w7.cell? ⟨gb246, 2, none⟩ = some (.slice A0_2 l0_2.length c0_2) := (blk_cell BK246.out 2).trans rfl
      have hcz17_3 : w7.cell? ⟨gb246, 3, none⟩ = some (.slice A0_3 l0_3.length c0_3) := (blk_cell BK246.out 3).trans rfl
      have hcz17_4 : w7.cell? ⟨gb246, 4, none⟩ = some (.slice A0_4 l0_4.length c0_4) := (blk_cell BK246.out 4).trans rfl
      have hfz17_0 := blk_frozen BK246.out 0
      have hfz17_1 := blk_frozen BK246.out 1
      have hfz17_2 := blk_frozen BK246.out 2
      have hfz17_3 := blk_frozen BK246.out 3
      have hfz17_4 := blk_frozen BK246.out 4
      go_wp2_with (first | ((with_reducible refine gate_callee (f := 39) rfl ?_); refine goesL_ (some 15) rfl rfl Tryz.func39 (by kernel_rfl) rfl #[.agg #[.slice A0_0 l0_0.length c0_0, .slice A0_1 l0_1.length c0_1, .slice A0_2 l0_2.length c0_2, .slice A0_3 l0_3.length c0_3, .slice A0_4 l0_4.length c0_4]] rfl (by (try simp only [List.map_toArray, List.map_cons, List.map_nil]); first | rfl) ?_; (with_reducible refine (proofmarkref27_Named.calls k _ _ l0_0 _ _ l0_1 _ _ l0_2 _ _ l0_3 _ _ l0_4 false _ ?side1 ?side2 ?side3 ?side4 ?side5 ?side6 ?side7 ?side8 ?side9 ?side10 A9.out).mono ?_); (case side1 => repeat (first | exact (Kd.C_below HR0_0.out HB.out))); (case side2 => exact HC0_0.out); (case side3 => repeat (first | exact (Kd.C_below HR0_1.out HB.out))); (case side4 => exact HC0_1.out); (case side5 => repeat (first | exact (Kd.C_below HR0_2.out HB.out))); (case side6 => exact HC0_2.out); (case side7 => repeat (first | exact (Kd.C_below HR0_3.out HB.out))); (case side8 => exact HC0_3.out); (case side9 => repeat (first | exact (Kd.C_below HR0_4.out HB.out))); (case side10 => exact HC0_4.out); rintro e w18 ⟨rfl, hb⟩; refine ⟨_, rfl, ?_⟩; have n0_ := Aside0.mk (Kd.R_below HO249.out hb); have n1_ := Aside0.mk (Kd.S_below HO252.out hb); have n2_ := Aside0.mk (blk_below BK246.out hb); have n3_ := Aside0.mk (below_step HB.out hb); clear HO249; clear HO252; clear BK246; clear HB; have HO249 := n0_; have HO252 := n1_; have BK246 := n2_; have HB := n3_; clear n0_ n1_ n2_ n3_; (try clear hb); (try clear hb2); (try clear hk); (try clear hi)))
      go_meet
      case rel => exact ⟨_, (true), rfl, H', ⟨by first | omega⟩, ⟨by exact HO249.out⟩, ⟨by exact HO252.out⟩, ⟨by exact BK246.out⟩, ⟨by exact HB.out⟩⟩
  case rest =>
    clear HC4
    try clear c1
    try clear p2
    try clear q2
    try clear hx2
    try clear c3
    try clear p6
    try clear c10
    try clear c12
    try clear c12b0
    try clear c13
    try clear c13b0
    try clear hcz14_0
    try clear hcz14_1
    try clear hcz14_2
    try clear hcz14_3
    try clear hcz14_4
    try clear hcz17_0
    try clear hcz17_1
    try clear hcz17_2
    try clear hcz17_3
    try clear hcz17_4
    try clear hfz14_0
    try clear hfz14_1
    try clear hfz14_2
    try clear hfz14_3
    try clear hfz14_4
    try clear hfz17_0
    try clear hfz17_1
    try clear hfz17_2
    try clear hfz17_3
    try clear hfz17_4
    try clear hx254_0
    try clear p254
    try clear q254
    obtain ⟨kq, x25_3, rfl, HA, HJ3, HO_6, HO_7, BK246, HB⟩ := hcut
    cases kq with
    | zero => exact absurd HA.out (by simp [proofmarkref27_Back.j0])
    | succ kj3 =>
      have H := HA.out
      clear HA
      simp only [proofmarkref27_Back.j0] at H
      by_cases c19 : x25_3 = true
      · subst c19
        have H1 : (some (([] : List (List Int)), false)) = some (r1, r2) := by rw [if_pos rfl] at H; exact H
        clear H
        have H := H1
        clear H1
        simp only [Option.some.injEq, Prod.mk.injEq] at H
        obtain ⟨rfl, rfl⟩ := H
        go_wp2
        go_ret2
        exact ⟨_, by first | rfl, by first | exact Kd.S_nil _ _ _ _ _, by exact HB.out⟩
      · replace c19 := Bool.eq_false_iff.mpr c19
        subst c19
        have H1 : (proofmarkref27_Back.l0 kj3 t247 y250 0 l0_0 l0_1 l0_2 l0_3 l0_4) = some (r1, r2) := by rw [if_neg (show ¬ (false = true) by decide)] at H; exact H
        clear H
        have H := H1
        clear H1
        have H' := Aside0.mk H
        clear H
        go_wp2
        try simp only [Act.put, List.setIfInBounds_toArray, List.set_cons_succ, List.set_cons_zero]
        go_loopg [7, 8] kj3 (fun kq v7 v8 w' => ∃ (x7_2 : List (List Int)) (x8_2 : Int), v8 = .int .i64 x8_2 ∧ Aside0 (proofmarkref27_Back.l0 kq t247 x7_2 x8_2 l0_0 l0_1 l0_2 l0_3 l0_4 = some (r1, r2)) ∧ Aside0 (kq ≤ kj3) ∧ Aside0 (Kd.R Kd.string 9 w' w.heap.size (fun _ => True) v248 t247) ∧ Aside0 (Kd.S (Kd.slice 3 (Kd.int .i64)) 37 w' w.heap.size (fun _ => True) v7 x7_2) ∧ Aside0 (w'.heap[gb246]? = some (.cells #[(.slice A0_0 l0_0.length c0_0), (.slice A0_1 l0_1.length c0_1), (.slice A0_2 l0_2.length c0_2), (.slice A0_3 l0_3.length c0_3), (.slice A0_4 l0_4.length c0_4)] 27 (0, 0))) ∧ Aside0 (Below w.heap.size w w'))
        case atStart => exact ⟨(y250), (0), rfl, H', ⟨Nat.le_refl _⟩, ⟨by exact HO_6.out⟩, ⟨by exact HO_7.out⟩, ⟨by exact BK246.out⟩, ⟨by exact HB.out⟩⟩
        case round =>
          clear H'
          try clear c1
          try clear p2
          try clear q2
          try clear hx2
          try clear c3
          try clear p6
          try clear c10
          try clear c12
          try clear c12b0
          try clear c13
          try clear c13b0
          try clear c19
          try clear hcz14_0
          try clear hcz14_1
          try clear hcz14_2
          try clear hcz14_3
          try clear hcz14_4
          try clear hcz17_0
          try clear hcz17_1
          try clear hcz17_2
          try clear hcz17_3
          try clear hcz17_4
          try clear hfz14_0
          try clear hfz14_1
          try clear hfz14_2
          try clear hfz14_3
          try clear hfz14_4
          try clear hfz17_0
          try clear hfz17_1
          try clear hfz17_2
          try clear hfz17_3
          try clear hfz17_4
          try clear hx254_0
          try clear p2
          try clear p254
          try clear p6
          try clear q2
          try clear q254
          obtain ⟨x7_2, x8_2, rfl, HA, HK2, HO_6, HO_7, BK246, HB⟩ := hrel
          cases gk with
          | zero => exact absurd HA.out (by simp [proofmarkref27_Back.l0])
          | succ k2 =>
            have H := HA.out
            clear HA
            simp only [proofmarkref27_Back.l0] at H
            by_cases c20 : x8_2 < (wrap64 ((t247.length : Int) - 1))
            · rw [if_pos c20] at H
              have c20b0 : decide (x8_2 < (wrap64 ((t247.length : Int) - 1))) = true := decide_eq_true c20
              clear c20
              by_cases c21 : 0 ≤ x8_2
              · rw [if_pos c21] at H
                have c21b0 : decide (0 ≤ x8_2) = true := decide_eq_true c21
                clear c21
                by_cases c22 : x8_2 < (t247.length : Int)
                · rw [if_pos c22] at H
                  have c22b0 : decide (x8_2 < (t247.length : Int)) = true := decide_eq_true c22
                  clear c22
                  replace H := Option.bind_eq_some_iff.mp H
                  obtain ⟨⟨t256, t259⟩, A230, H⟩ := H
                  replace H : (if t259 = true then (if x7_2.length < 5864062014805 then (proofmarkref27_Back.l0 k2 t247 (x7_2 ++ [t256]) (wrap64 (x8_2 + 1)) l0_0 l0_1 l0_2 l0_3 l0_4) else (none)) else (some (([] : List (List Int)), false))) = some (r1, r2) := H
                  have A23 := Aside0.mk A230
                  clear A230
                  by_cases c24 : t259 = true
                  · subst c24
                    have H1 : (if x7_2.length < 5864062014805 then (proofmarkref27_Back.l0 k2 t247 (x7_2 ++ [t256]) (wrap64 (x8_2 + 1)) l0_0 l0_1 l0_2 l0_3 l0_4) else (none)) = some (r1, r2) := by rw [if_pos rfl] at H; exact H
                    clear H
                    have H := H1
                    clear H1
                    by_cases c25 : x7_2.length < 5864062014805
                    · rw [if_pos c25] at H
                      have LMc25 := Aside0.mk c25
                      clear c25
                      obtain ⟨y260, hy260⟩ : ∃ y_ : List (List Int), y_ = (x7_2 ++ [t256]) := ⟨_, rfl⟩
                      replace H : (proofmarkref27_Back.l0 k2 t247 y260 (wrap64 (x8_2 + 1)) l0_0 l0_1 l0_2 l0_3 l0_4) = some (r1, r2) := by first | (rw [hy260]; with_reducible exact H)
                      have Ny260 := Aside0.mk hy260
                      clear hy260
                      have H' := Aside0.mk H
                      clear H
                      obtain ⟨Ao26, co26, eo26⟩ := Kd.R_slice HO_6.out
                      subst eo26
                      try go_wp2
                      have n0_ := Aside0.mk (Kd.R_drew HO_6.out)
                      have n1_ := Aside0.mk (Kd.S_drew HO_7.out)
                      have n2_ := Aside0.mk (blk_drew BK246.out)
                      have n3_ := Aside0.mk (below_drew1 HB.out)
                      clear HO_6
                      clear HO_7
                      clear BK246
                      clear HB
                      have HO_6 := n0_
                      have HO_7 := n1_
                      have BK246 := n2_
                      have HB := n3_
                      clear n0_ n1_ n2_ n3_
                      have p255 : 0 ≤ (x8_2 : Int) := of_decide_eq_true (by first | (with_reducible assumption))
                      have q255 : x8_2 < (t247.length : Int) := of_decide_eq_true (by first | (with_reducible assumption))
                      obtain ⟨ad255, e255, hx255_0⟩ := Kd.at_string (Kd.R_reads' HO_6.out).2.2 x8_2 p255 q255
                      cases e255
                      replace p255 := eq_true p255
                      replace q255 := eq_true q255
                      refine start_ (n := 12) (S := fun w' => w'.cell? ⟨gb246, 0, none⟩ = some (.slice A0_0 l0_0.length c0_0) ∧ w'.cell? ⟨gb246, 1, none⟩ = some (.slice A0_1 l0_1.length c0_1) ∧ w'.cell? ⟨gb246, 2, none⟩ = some (.slice A0_2 l0_2.length c0_2) ∧ w'.cell? ⟨gb246, 3, none⟩ = some (.slice A0_3 l0_3.length c0_3) ∧ w'.cell? ⟨gb246, 4, none⟩ = some (.slice A0_4 l0_4.length c0_4) ∧ w'.cell? (ad255.add (x8_2).toNat) = some (.string (rdOf ByteArray.empty t247 x8_2))) (ds := []) #[false, false, false, false, false, false, false, false, false, false, false, false] (by kernel_rfl) rfl rfl ⟨(blk_cell BK246.out 0).trans rfl, (blk_cell BK246.out 1).trans rfl, (blk_cell BK246.out 2).trans rfl, (blk_cell BK246.out 3).trans rfl, (blk_cell BK246.out 4).trans rfl, hx255_0⟩ (fun hHeld => ?_); refine with_tabW proofmarkref27_Back.tab8 proofmarkref27_Back.bits8 (fun HT_ HW_ => ?_)
                      generalize wr.drew = w27 at HO_6 HO_7 BK246 HB hx255_0 hHeld ⊢
                      refine pure_ (i := 1) (N := some 35) (v := ?_) (a' := ?_) #[false, true, false, false, false, false, false, false, false, false, false, false] rfl rfl (any_of HT_.out (by kernel_rfl)) (fun _ _ _ h => h) (Or.inl ⟨by rfl, ?_⟩) ?_ ?_
                      rotate_left
                      · intro w'
                        go_simp
                        with_reducible rfl
                      rotate_left
                      · simp only [Act.put, List.setIfInBounds_toArray, List.set_cons_zero, List.set_cons_succ, i64_w, i32_w]
                        rfl
                      refine pure_ (i := 2) (N := some 36) (v := ?_) (a' := ?_) #[false, true, true, false, false, false, false, false, false, false, false, false] rfl rfl (any_of HT_.out (by kernel_rfl)) (fun _ _ _ h => h) (Or.inl ⟨by rfl, ?_⟩) ?_ ?_
                      rotate_left
                      · intro w'
                        go_simp
                        with_reducible rfl
                      rotate_left
                      · simp only [Act.put, List.setIfInBounds_toArray, List.set_cons_zero, List.set_cons_succ, i64_w, i32_w]
                        rfl
                      refine pure_ (i := 3) (N := some 37) (v := ?_) (a' := ?_) #[false, true, true, true, false, false, false, false, false, false, false, false] rfl rfl (any_of HT_.out (by kernel_rfl)) (fun _ _ _ h => h) (Or.inl ⟨by rfl, ?_⟩) ?_ ?_
                      rotate_left
                      · intro w'
                        go_simp
                        with_reducible rfl
                      rotate_left
                      · simp only [Act.put, List.setIfInBounds_toArray, List.set_cons_zero, List.set_cons_succ, i64_w, i32_w]
                        rfl
                      refine pure_ (i := 4) (N := some 38) (v := ?_) (a' := ?_) #[false, true, true, true, true, false, false, false, false, false, false, false] rfl rfl (any_of HT_.out (by kernel_rfl)) (fun _ _ _ h => h) (Or.inl ⟨by rfl, ?_⟩) ?_ ?_
                      rotate_left
                      · intro w'
                        go_simp
                        with_reducible rfl
                      rotate_left
                      · simp only [Act.put, List.setIfInBounds_toArray, List.set_cons_zero, List.set_cons_succ, i64_w, i32_w]
                        rfl
                      refine take_ (i := 0) (N := some 34) (v := ?_) (a' := ?_) #[true, true, true, true, true, false, false, false, false, false, false, false] rfl rfl (take_ofW HT_.out HW_.out (by kernel_rfl)) (fun _ _ _ h => h) (Or.inl ⟨by rfl, ?_⟩) hHeld ?_ ?_
                      rotate_left
                      · rintro w' ⟨s0, s1, s2, s3, s4, s5⟩
                        go_simp
                        with_reducible rfl
                      rotate_left
                      · simp only [Act.put, List.setIfInBounds_toArray, List.set_cons_zero, List.set_cons_succ, i64_w, i32_w]
                        rfl
                      refine take_ (i := 5) (N := some 39) (v := ?_) (a' := ?_) #[true, true, true, true, true, true, false, false, false, false, false, false] rfl rfl (take_ofW HT_.out HW_.out (by kernel_rfl)) (fun _ _ _ h => h) (Or.inl ⟨by rfl, ?_⟩) hHeld ?_ ?_
                      rotate_left
                      · rintro w' ⟨s0, s1, s2, s3, s4, s5⟩
                        go_simp
                        with_reducible rfl
                      rotate_left
                      · simp only [Act.put, List.setIfInBounds_toArray, List.set_cons_zero, List.set_cons_succ, i64_w, i32_w]
                        rfl
                      refine one_ (i := 6) (N := some 40) #[true, true, true, true, true, true, true, false, false, false, false, false] rfl rfl (one_of HT_.out (by kernel_rfl)) (by decide) (fun K hK => ?_)
                      refine goes_ Tryz.func40 (by kernel_rfl) rfl #[.agg #[.slice A0_0 l0_0.length c0_0, .slice A0_1 l0_1.length c0_1, .slice A0_2 l0_2.length c0_2, .slice A0_3 l0_3.length c0_3, .slice A0_4 l0_4.length c0_4], .int .i64 x8_2, .string (rdOf ByteArray.empty t247 x8_2)] (by rfl) rfl rfl (by (try simp only [List.map_toArray, List.map_cons, List.map_nil]); first | rfl) ?_
                      with_reducible refine (proofmarkref27_line.calls k2 _ _ l0_0 _ _ l0_1 _ _ l0_2 _ _ l0_3 _ _ l0_4 x8_2 (rdOf ByteArray.empty t247 x8_2) t256 true _ ?side1 ?side2 ?side3 ?side4 ?side5 ?side6 ?side7 ?side8 ?side9 ?side10 A23.out).mono ?_
                      (case side1 => repeat (first | exact (Kd.C_below HR0_0.out HB.out)))
                      (case side2 => exact HC0_0.out)
                      (case side3 => repeat (first | exact (Kd.C_below HR0_1.out HB.out)))
                      (case side4 => exact HC0_1.out)
                      (case side5 => repeat (first | exact (Kd.C_below HR0_2.out HB.out)))
                      (case side6 => exact HC0_2.out)
                      (case side7 => repeat (first | exact (Kd.C_below HR0_3.out HB.out)))
                      (case side8 => exact HC0_3.out)
                      (case side9 => repeat (first | exact (Kd.C_below HR0_4.out HB.out)))
                      (case side10 => exact HC0_4.out)
                      rintro e w28 ⟨v257, rfl, ho0, hb⟩
                      have HS5_ := (hb.cell (World.block_lt_of_cell? _ _ (hHeld.2.2.2.2.2))).trans (hHeld.2.2.2.2.2)
                      refine ⟨_, rfl, ?_⟩
                      have n0_ := Aside0.mk (Kd.R_below HO_6.out hb)
                      have n1_ := Aside0.mk (Kd.S_elder' HO_7.out (Kd.R_base ho0) hb)
                      have n2_ := Aside0.mk (Kd.R_lower ho0 (below_size HB.out))
                      have n3_ := Aside0.mk (blk_below BK246.out hb)
                      have n4_ := Aside0.mk (below_step HB.out hb)
                      clear HO_6
                      clear HO_7
                      clear BK246
                      clear HB
                      have HO_6 := n0_
                      have HO_7 := n1_
                      have HO258 := n2_
                      have BK246 := n3_
                      have HB := n4_
                      clear n0_ n1_ n2_ n3_ n4_
                      (try clear hb)
                      (try clear hb2)
                      (try clear hk)
                      (try clear hi)
                      (try clear ho0)
                      refine hK.out _ _ ⟨(blk_cell BK246.out 0).trans rfl, (blk_cell BK246.out 1).trans rfl, (blk_cell BK246.out 2).trans rfl, (blk_cell BK246.out 3).trans rfl, (blk_cell BK246.out 4).trans rfl, HS5_⟩ (fun hHeld => ?_)
                      clear hK K
                      refine norm_ (a' := ?_) ?_ ?_
                      rotate_left
                      · show Act.put _ (some 40) _ = _
                        simp only [Act.put, List.setIfInBounds_toArray, List.set_cons_zero, List.set_cons_succ, i64_w, i32_w]
                        rfl
                      refine pure_ (i := 7) (N := some 33) (v := ?_) (a' := ?_) #[true, true, true, true, true, true, true, true, false, false, false, false] rfl rfl (any_of HT_.out (by kernel_rfl)) (fun _ _ _ h => h) (Or.inl ⟨by rfl, ?_⟩) ?_ ?_
                      rotate_left
                      · intro w'
                        go_simp
                        with_reducible rfl
                      rotate_left
                      · simp only [Act.put, List.setIfInBounds_toArray, List.set_cons_zero, List.set_cons_succ, i64_w, i32_w]
                        rfl
                      refine pure_ (i := 8) (N := some 41) (v := ?_) (a' := ?_) #[true, true, true, true, true, true, true, true, true, false, false, false] rfl rfl (any_of HT_.out (by kernel_rfl)) (fun _ _ _ h => h) (Or.inl ⟨by rfl, ?_⟩) ?_ ?_
                      rotate_left
                      · intro w'
                        go_simp
                        with_reducible rfl
                      rotate_left
                      · simp only [Act.put, List.setIfInBounds_toArray, List.set_cons_zero, List.set_cons_succ, i64_w, i32_w]
                        rfl
                      refine pure_ (i := 9) (N := some 42) (v := ?_) (a' := ?_) #[true, true, true, true, true, true, true, true, true, true, false, false] rfl rfl (any_of HT_.out (by kernel_rfl)) (fun _ _ _ h => h) (Or.inl ⟨by rfl, ?_⟩) ?_ ?_
                      rotate_left
                      · intro w'
                        go_simp
                        with_reducible rfl
                      rotate_left
                      · simp only [Act.put, List.setIfInBounds_toArray, List.set_cons_zero, List.set_cons_succ, i64_w, i32_w]
                        rfl
                      refine pure_ (i := 10) (N := some 9) (v := ?_) (a' := ?_) #[true, true, true, true, true, true, true, true, true, true, true, false] rfl rfl (any_of HT_.out (by kernel_rfl)) (fun _ _ _ h => h) (Or.inl ⟨by rfl, ?_⟩) ?_ ?_
                      rotate_left
                      · intro w'
                        go_simp
                        with_reducible rfl
                      rotate_left
                      · simp only [Act.put, List.setIfInBounds_toArray, List.set_cons_zero, List.set_cons_succ, i64_w, i32_w]
                        rfl
                      refine pure_ (i := 11) (N := some 10) (v := ?_) (a' := ?_) #[true, true, true, true, true, true, true, true, true, true, true, true] rfl rfl (any_of HT_.out (by kernel_rfl)) (fun _ _ _ h => h) (Or.inl ⟨by rfl, ?_⟩) ?_ ?_
                      rotate_left
                      · intro w'
                        go_simp
                        with_reducible rfl
                      rotate_left
                      · simp only [Act.put, List.setIfInBounds_toArray, List.set_cons_zero, List.set_cons_succ, i64_w, i32_w]
                        rfl
                      refine done_ (done_of HT_.out (by kernel_rfl)) ?_
                      obtain ⟨Ao30, co30, eo30⟩ := Kd.R_slice HO258.out
                      subst eo30
                      try go_wp2_with (first | ((with_reducible refine gate_builtin (b := .append) (xs := #[.tmp 45, .tmp 47]) rfl ?_); (try (refine gate_guard (by rfl) ?_; dsimp only)); at_builtin; refine Kd.S_append (Kd.slice 3 (Kd.int .i64)) (w0 := w) w.heap.size rfl (.tmp 45) (.tmp 47) 36 37 (.slice none 0 0) 24 rfl Tryz.underlying36 info37 rfl (by decide) (by omega) u7 x7_2 t256 [.slice Ao30 t256.length co30] (fun _ => True) (fun k_ => some k_ = (.slice Ao30 t256.length co30 : Value).ownBlock) rfl rfl ?aP (fun k_ hk_ => ((Kd.R_mono (ok' := fun k_ => ((fun _ => True)) k_ ∧ some k_ ≠ (u7 : Value).ownBlock) (Kd.R_apart' (HO258.out) (Kd.S_typed HO_7.out) (by decide)) (fun k_ hk => ⟨trivial, hk.2⟩))).1 k_ hk_.symm) ?aF ?aO ?aB ?aS ?aL ?_; (case aP => exact Kd.M_row (Kd.R_mono (Kd.R_tight rfl (Kd.R_mono (ok' := fun k_ => ((fun _ => True)) k_ ∧ some k_ ≠ (u7 : Value).ownBlock) (Kd.R_apart' (HO258.out) (Kd.S_typed HO_7.out) (by decide)) (fun k_ hk => ⟨trivial, hk.2⟩))) (fun _ h_ => h_))); (case aB => exact HB.out); (case aF => exact (fun _ _ => trivial)); (case aO => exact (by exact Kd.S_mono HO_7.out (fun k_ hk => ⟨trivial, fun e_ => hk.2 e_⟩))); (case aS => exact (below_size HB.out)); (case aL => have := LMc25.out; omega); intro v261 w29 ho hb hg hat; rw [← Ny260.out] at ho; have n0_ := Aside0.mk (Kd.R_over' HO_6.out (Kd.S_typed HO_7.out) (by decide) hg); have n1_ := Aside0.mk (blk_grown (g := gb246) (o := .cells #[.slice A0_0 l0_0.length c0_0, .slice A0_1 l0_1.length c0_1, .slice A0_2 l0_2.length c0_2, .slice A0_3 l0_3.length c0_3, .slice A0_4 l0_4.length c0_4] 27 (0, 0)) BK246.out hg (Kd.S_ne HO_7.out BK246.out (by decide))); have n2_ := Aside0.mk (hb); have n3_ := Aside0.mk (ho); clear HO_6; clear BK246; clear HB; clear HO_7; clear HO258; have HO_6 := n0_; have BK246 := n1_; have HB := n2_; have HO262 := n3_; clear n0_ n1_ n2_ n3_; clear ho hb hg hat))
                      go_roundg k2
                      case measure => have := HJ3.out; have := HK2.out; omega
                      case rel => exact ⟨(y260), (wrap64 (x8_2 + 1)), rfl, H', ⟨by have := HJ3.out; have := HK2.out; omega⟩, ⟨by exact HO_6.out⟩, ⟨by exact HO262.out⟩, ⟨by exact BK246.out⟩, ⟨by exact HB.out⟩⟩
                    · rw [if_neg c25] at H
                      exact absurd H (by simp)
                  · replace c24 := Bool.eq_false_iff.mpr c24
                    subst c24
                    have H1 : (some (([] : List (List Int)), false)) = some (r1, r2) := by rw [if_neg (show ¬ (false = true) by decide)] at H; exact H
                    clear H
                    have H := H1
                    clear H1
                    simp only [Option.some.injEq, Prod.mk.injEq] at H
                    obtain ⟨rfl, rfl⟩ := H
                    obtain ⟨Ao31, co31, eo31⟩ := Kd.R_slice HO_6.out
                    subst eo31
                    try go_wp2
                    have n0_ := Aside0.mk (Kd.R_drew HO_6.out)
                    have n1_ := Aside0.mk (Kd.S_drew HO_7.out)
                    have n2_ := Aside0.mk (blk_drew BK246.out)
                    have n3_ := Aside0.mk (below_drew1 HB.out)
                    clear HO_6
                    clear HO_7
                    clear BK246
                    clear HB
                    have HO_6 := n0_
                    have HO_7 := n1_
                    have BK246 := n2_
                    have HB := n3_
                    clear n0_ n1_ n2_ n3_
                    have p255 : 0 ≤ (x8_2 : Int) := of_decide_eq_true (by first | (with_reducible assumption))
                    have q255 : x8_2 < (t247.length : Int) := of_decide_eq_true (by first | (with_reducible assumption))
                    obtain ⟨ad255, e255, hx255_0⟩ := Kd.at_string (Kd.R_reads' HO_6.out).2.2 x8_2 p255 q255
                    cases e255
                    replace p255 := eq_true p255
                    replace q255 := eq_true q255
                    refine start_ (n := 12) (S := fun w' => w'.cell? ⟨gb246, 0, none⟩ = some (.slice A0_0 l0_0.length c0_0) ∧ w'.cell? ⟨gb246, 1, none⟩ = some (.slice A0_1 l0_1.length c0_1) ∧ w'.cell? ⟨gb246, 2, none⟩ = some (.slice A0_2 l0_2.length c0_2) ∧ w'.cell? ⟨gb246, 3, none⟩ = some (.slice A0_3 l0_3.length c0_3) ∧ w'.cell? ⟨gb246, 4, none⟩ = some (.slice A0_4 l0_4.length c0_4) ∧ w'.cell? (ad255.add (x8_2).toNat) = some (.string (rdOf ByteArray.empty t247 x8_2))) (ds := []) #[false, false, false, false, false, false, false, false, false, false, false, false] (by kernel_rfl) rfl rfl ⟨(blk_cell BK246.out 0).trans rfl, (blk_cell BK246.out 1).trans rfl, (blk_cell BK246.out 2).trans rfl, (blk_cell BK246.out 3).trans rfl, (blk_cell BK246.out 4).trans rfl, hx255_0⟩ (fun hHeld => ?_); refine with_tabW proofmarkref27_Back.tab8 proofmarkref27_Back.bits8 (fun HT_ HW_ => ?_)
                    generalize wr.drew = w32 at HO_6 HO_7 BK246 HB hx255_0 hHeld ⊢
                    refine pure_ (i := 1) (N := some 35) (v := ?_) (a' := ?_) #[false, true, false, false, false, false, false, false, false, false, false, false] rfl rfl (any_of HT_.out (by kernel_rfl)) (fun _ _ _ h => h) (Or.inl ⟨by rfl, ?_⟩) ?_ ?_
                    rotate_left
                    · intro w'
                      go_simp
                      with_reducible rfl
                    rotate_left
                    · simp only [Act.put, List.setIfInBounds_toArray, List.set_cons_zero, List.set_cons_succ, i64_w, i32_w]
                      rfl
                    refine pure_ (i := 2) (N := some 36) (v := ?_) (a' := ?_) #[false, true, true, false, false, false, false, false, false, false, false, false] rfl rfl (any_of HT_.out (by kernel_rfl)) (fun _ _ _ h => h) (Or.inl ⟨by rfl, ?_⟩) ?_ ?_
                    rotate_left
                    · intro w'
                      go_simp
                      with_reducible rfl
                    rotate_left
                    · simp only [Act.put, List.setIfInBounds_toArray, List.set_cons_zero, List.set_cons_succ, i64_w, i32_w]
                      rfl
                    refine pure_ (i := 3) (N := some 37) (v := ?_) (a' := ?_) #[false, true, true, true, false, false, false, false, false, false, false, false] rfl rfl (any_of HT_.out (by kernel_rfl)) (fun _ _ _ h => h) (Or.inl ⟨by rfl, ?_⟩) ?_ ?_
                    rotate_left
                    · intro w'
                      go_simp
                      with_reducible rfl
                    rotate_left
                    · simp only [Act.put, List.setIfInBounds_toArray, List.set_cons_zero, List.set_cons_succ, i64_w, i32_w]
                      rfl
                    refine pure_ (i := 4) (N := some 38) (v := ?_) (a' := ?_) #[false, true, true, true, true, false, false, false, false, false, false, false] rfl rfl (any_of HT_.out (by kernel_rfl)) (fun _ _ _ h => h) (Or.inl ⟨by rfl, ?_⟩) ?_ ?_
                    rotate_left
                    · intro w'
                      go_simp
                      with_reducible rfl
                    rotate_left
                    · simp only [Act.put, List.setIfInBounds_toArray, List.set_cons_zero, List.set_cons_succ, i64_w, i32_w]
                      rfl
                    refine take_ (i := 0) (N := some 34) (v := ?_) (a' := ?_) #[true, true, true, true, true, false, false, false, false, false, false, false] rfl rfl (take_ofW HT_.out HW_.out (by kernel_rfl)) (fun _ _ _ h => h) (Or.inl ⟨by rfl, ?_⟩) hHeld ?_ ?_
                    rotate_left
                    · rintro w' ⟨s0, s1, s2, s3, s4, s5⟩
                      go_simp
                      with_reducible rfl
                    rotate_left
                    · simp only [Act.put, List.setIfInBounds_toArray, List.set_cons_zero, List.set_cons_succ, i64_w, i32_w]
                      rfl
                    refine take_ (i := 5) (N := some 39) (v := ?_) (a' := ?_) #[true, true, true, true, true, true, false, false, false, false, false, false] rfl rfl (take_ofW HT_.out HW_.out (by kernel_rfl)) (fun _ _ _ h => h) (Or.inl ⟨by rfl, ?_⟩) hHeld ?_ ?_
                    rotate_left
                    · rintro w' ⟨s0, s1, s2, s3, s4, s5⟩
                      go_simp
                      with_reducible rfl
                    rotate_left
                    · simp only [Act.put, List.setIfInBounds_toArray, List.set_cons_zero, List.set_cons_succ, i64_w, i32_w]
                      rfl
                    refine one_ (i := 6) (N := some 40) #[true, true, true, true, true, true, true, false, false, false, false, false] rfl rfl (one_of HT_.out (by kernel_rfl)) (by decide) (fun K hK => ?_)
                    refine goes_ Tryz.func40 (by kernel_rfl) rfl #[.agg #[.slice A0_0 l0_0.length c0_0, .slice A0_1 l0_1.length c0_1, .slice A0_2 l0_2.length c0_2, .slice A0_3 l0_3.length c0_3, .slice A0_4 l0_4.length c0_4], .int .i64 x8_2, .string (rdOf ByteArray.empty t247 x8_2)] (by rfl) rfl rfl (by (try simp only [List.map_toArray, List.map_cons, List.map_nil]); first | rfl) ?_
                    with_reducible refine (proofmarkref27_line.calls k2 _ _ l0_0 _ _ l0_1 _ _ l0_2 _ _ l0_3 _ _ l0_4 x8_2 (rdOf ByteArray.empty t247 x8_2) t256 false _ ?side1 ?side2 ?side3 ?side4 ?side5 ?side6 ?side7 ?side8 ?side9 ?side10 A23.out).mono ?_
                    (case side1 => repeat (first | exact (Kd.C_below HR0_0.out HB.out)))
                    (case side2 => exact HC0_0.out)
                    (case side3 => repeat (first | exact (Kd.C_below HR0_1.out HB.out)))
                    (case side4 => exact HC0_1.out)
                    (case side5 => repeat (first | exact (Kd.C_below HR0_2.out HB.out)))
                    (case side6 => exact HC0_2.out)
                    (case side7 => repeat (first | exact (Kd.C_below HR0_3.out HB.out)))
                    (case side8 => exact HC0_3.out)
                    (case side9 => repeat (first | exact (Kd.C_below HR0_4.out HB.out)))
                    (case side10 => exact HC0_4.out)
                    rintro e w33 ⟨v257, rfl, ho0, hb⟩
                    have HS5_ := (hb.cell (World.block_lt_of_cell? _ _ (hHeld.2.2.2.2.2))).trans (hHeld.2.2.2.2.2)
                    refine ⟨_, rfl, ?_⟩
                    have n0_ := Aside0.mk (Kd.R_below HO_6.out hb)
                    have n1_ := Aside0.mk (Kd.S_elder' HO_7.out (Kd.R_base ho0) hb)
                    have n2_ := Aside0.mk (Kd.R_lower ho0 (below_size HB.out))
                    have n3_ := Aside0.mk (blk_below BK246.out hb)
                    have n4_ := Aside0.mk (below_step HB.out hb)
                    clear HO_6
                    clear HO_7
                    clear BK246
                    clear HB
                    have HO_6 := n0_
                    have HO_7 := n1_
                    have HO258 := n2_
                    have BK246 := n3_
                    have HB := n4_
                    clear n0_ n1_ n2_ n3_ n4_
                    (try clear hb)
                    (try clear hb2)
                    (try clear hk)
                    (try clear hi)
                    (try clear ho0)
                    refine hK.out _ _ ⟨(blk_cell BK246.out 0).trans rfl, (blk_cell BK246.out 1).trans rfl, (blk_cell BK246.out 2).trans rfl, (blk_cell BK246.out 3).trans rfl, (blk_cell BK246.out 4).trans rfl, HS5_⟩ (fun hHeld => ?_)
                    clear hK K
                    refine norm_ (a' := ?_) ?_ ?_
                    rotate_left
                    · show Act.put _ (some 40) _ = _
                      simp only [Act.put, List.setIfInBounds_toArray, List.set_cons_zero, List.set_cons_succ, i64_w, i32_w]
                      rfl
                    refine pure_ (i := 7) (N := some 33) (v := ?_) (a' := ?_) #[true, true, true, true, true, true, true, true, false, false, false, false] rfl rfl (any_of HT_.out (by kernel_rfl)) (fun _ _ _ h => h) (Or.inl ⟨by rfl, ?_⟩) ?_ ?_
                    rotate_left
                    · intro w'
                      go_simp
                      with_reducible rfl
                    rotate_left
                    · simp only [Act.put, List.setIfInBounds_toArray, List.set_cons_zero, List.set_cons_succ, i64_w, i32_w]
                      rfl
                    refine pure_ (i := 8) (N := some 41) (v := ?_) (a' := ?_) #[true, true, true, true, true, true, true, true, true, false, false, false] rfl rfl (any_of HT_.out (by kernel_rfl)) (fun _ _ _ h => h) (Or.inl ⟨by rfl, ?_⟩) ?_ ?_
                    rotate_left
                    · intro w'
                      go_simp
                      with_reducible rfl
                    rotate_left
                    · simp only [Act.put, List.setIfInBounds_toArray, List.set_cons_zero, List.set_cons_succ, i64_w, i32_w]
                      rfl
                    refine pure_ (i := 9) (N := some 42) (v := ?_) (a' := ?_) #[true, true, true, true, true, true, true, true, true, true, false, false] rfl rfl (any_of HT_.out (by kernel_rfl)) (fun _ _ _ h => h) (Or.inl ⟨by rfl, ?_⟩) ?_ ?_
                    rotate_left
                    · intro w'
                      go_simp
                      with_reducible rfl
                    rotate_left
                    · simp only [Act.put, List.setIfInBounds_toArray, List.set_cons_zero, List.set_cons_succ, i64_w, i32_w]
                      rfl
                    refine pure_ (i := 10) (N := some 9) (v := ?_) (a' := ?_) #[true, true, true, true, true, true, true, true, true, true, true, false] rfl rfl (any_of HT_.out (by kernel_rfl)) (fun _ _ _ h => h) (Or.inl ⟨by rfl, ?_⟩) ?_ ?_
                    rotate_left
                    · intro w'
                      go_simp
                      with_reducible rfl
                    rotate_left
                    · simp only [Act.put, List.setIfInBounds_toArray, List.set_cons_zero, List.set_cons_succ, i64_w, i32_w]
                      rfl
                    refine pure_ (i := 11) (N := some 10) (v := ?_) (a' := ?_) #[true, true, true, true, true, true, true, true, true, true, true, true] rfl rfl (any_of HT_.out (by kernel_rfl)) (fun _ _ _ h => h) (Or.inl ⟨by rfl, ?_⟩) ?_ ?_
                    rotate_left
                    · intro w'
                      go_simp
                      with_reducible rfl
                    rotate_left
                    · simp only [Act.put, List.setIfInBounds_toArray, List.set_cons_zero, List.set_cons_succ, i64_w, i32_w]
                      rfl
                    refine done_ (done_of HT_.out (by kernel_rfl)) ?_
                    try go_wp2
                    go_ret2
                    exact ⟨_, by first | rfl, by first | exact Kd.S_nil _ _ _ _ _, by exact HB.out⟩
                · rw [if_neg c22] at H
                  exact absurd H (by simp)
              · rw [if_neg c21] at H
                exact absurd H (by simp)
            · rw [if_neg c20] at H
              have c20b0 : decide (x8_2 < (wrap64 ((t247.length : Int) - 1))) = false := decide_eq_false c20
              clear c20
              simp only [Option.some.injEq, Prod.mk.injEq] at H
              obtain ⟨rfl, rfl⟩ := H
              obtain ⟨Ao34, co34, eo34⟩ := Kd.R_slice HO_6.out
              subst eo34
              go_wp2
              go_ret2
              exact ⟨_, by first | rfl, by exact HO_7.out, by exact HB.out⟩

end Go.Proofs.YtmfekngjhiofaaaGreatDoor.Q
