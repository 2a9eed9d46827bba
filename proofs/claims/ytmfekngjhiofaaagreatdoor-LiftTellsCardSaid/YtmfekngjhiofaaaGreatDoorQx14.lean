-- Written by the session's own program (wip/tools/ownprint.py) for this claim: functions of the translation as plain Lean functions, and their contracts.
import Derived.Test.YtmfekngjhiofaaaGreatDoorQx0
import Derived.Test.YtmfekngjhiofaaaGreatDoorQx12
import Derived.Test.YtmfekngjhiofaaaGreatDoorQx13
namespace Go.Proofs.YtmfekngjhiofaaaGreatDoor.Q
open Go.RowKit Go.Proofs.YtmfekngjhiofaaaGreatDoorW.PrintWords Go.Proofs.YtmfekngjhiofaaaGreatDoorW.PrintLast Go.Proofs.YtmfekngjhiofaaaGreatDoorW.PrintMore
attribute [local go_sem] max2_int min2_int max_two min_two max_three min_three max_four min_four   -- for this text's walks alone
set_option linter.unusedVariables false
set_option linter.unusedSimpArgs false

/-! ### proofmarkref27_line: function 40 -/
mutual
def proofmarkref27_line.j0 : Nat → List Int → List ByteArray → Bool → List (S125) → List (S72) → List (S114) → List (S105) → List (S72) → Option (List Int × Bool)
  | 0, _, _, _, _, _, _, _, _ => none
  | k + 1, x8, x9, x32, x226000, x226001, x226002, x226003, x226004 => if x32 = true then (some (([] : List Int), false)) else (proofmarkref27_line.l0 k x8 x9 0 x226000 x226001 x226002 x226003 x226004)
def proofmarkref27_line.l0 : Nat → List Int → List ByteArray → Int → List (S125) → List (S72) → List (S114) → List (S105) → List (S72) → Option (List Int × Bool)
  | 0, _, _, _, _, _, _, _, _ => none
  | k + 1, x8, x9, x10, x226000, x226001, x226002, x226003, x226004 => if x10 < (x226001.length : Int) then (if 0 ≤ (wrap64 (x10 + 1)) then (if (wrap64 (x10 + 1)) < (x9.length : Int) then ((proofmarkref27_cut.f k (rdOf ByteArray.empty x9 (wrap64 (x10 + 1))) (⟨#[61]⟩ : ByteArray)).bind fun t235 => (if (t235.length : Int) = 2 then (if 0 < (t235.length : Int) then (if 0 ≤ x10 then (proofmarkref27_line.j2 k x8 x9 x10 t235 ((rdOf ByteArray.empty t235 0).toList != ((rd_T72 x226001 x10).f0).toList) x226000 x226001 x226002 x226003 x226004) else (none)) else (none)) else (proofmarkref27_line.j2 k x8 x9 x10 t235 true x226000 x226001 x226002 x226003 x226004))) else (none)) else (none)) else (some (x8, true))
def proofmarkref27_line.j2 : Nat → List Int → List ByteArray → Int → List ByteArray → Bool → List (S125) → List (S72) → List (S114) → List (S105) → List (S72) → Option (List Int × Bool)
  | 0, _, _, _, _, _, _, _, _, _, _ => none
  | k + 1, x8, x9, x10, x11, x60, x226000, x226001, x226002, x226003, x226004 => if x60 = true then (some (([] : List Int), false)) else (if 1 < (x11.length : Int) then ((proofmarkref27_number.f k (rdOf ByteArray.empty x11 1) 65535).bind fun bt241 => (if bt241.2 = true then (if x8.length < 17592186044416 then (proofmarkref27_line.l0 k (x8 ++ [bt241.1]) x9 (wrap64 (x10 + 1)) x226000 x226001 x226002 x226003 x226004) else (none)) else (some (([] : List Int), false)))) else (none))
end
def proofmarkref27_line.f (k : Nat) (l0_0 : List (S125)) (l0_1 : List (S72)) (l0_2 : List (S114)) (l0_3 : List (S105)) (l0_4 : List (S72)) (a1 : Int) (a2 : ByteArray) : Option (List Int × Bool) := (some (([] : List Int) : List Int)).bind fun y226 => ((proofmarkref27_cut.f k a2 (⟨#[32]⟩ : ByteArray)).bind fun t229 => (if (t229.length : Int) = (wrap64 ((l0_1.length : Int) + 1)) then (if 0 < (t229.length : Int) then ((proofmarkref27_Num.f k a1).bind fun t233 => (if t233.size + 1 ≤ 9223372036854775807 then (proofmarkref27_line.j0 k y226 t229 ((rdOf ByteArray.empty t229 0).toList != (t233 ++ (⟨#[58]⟩ : ByteArray)).toList) l0_0 l0_1 l0_2 l0_3 l0_4) else (none))) else (none)) else (proofmarkref27_line.j0 k y226 t229 true l0_0 l0_1 l0_2 l0_3 l0_4)))
theorem proofmarkref27_line.mono_l : ∀ k, (∀ y0 y1 y2 y3 y4 y5 y6 y7, LeO (proofmarkref27_line.j0 k y0 y1 y2 y3 y4 y5 y6 y7) (proofmarkref27_line.j0 (k + 1) y0 y1 y2 y3 y4 y5 y6 y7)) ∧ (∀ y0 y1 y2 y3 y4 y5 y6 y7, LeO (proofmarkref27_line.l0 k y0 y1 y2 y3 y4 y5 y6 y7) (proofmarkref27_line.l0 (k + 1) y0 y1 y2 y3 y4 y5 y6 y7)) ∧ (∀ y0 y1 y2 y3 y4 y5 y6 y7 y8 y9, LeO (proofmarkref27_line.j2 k y0 y1 y2 y3 y4 y5 y6 y7 y8 y9) (proofmarkref27_line.j2 (k + 1) y0 y1 y2 y3 y4 y5 y6 y7 y8 y9))
  | 0 => ⟨fun _ _ _ _ _ _ _ _ r h => by simp [proofmarkref27_line.j0] at h, fun _ _ _ _ _ _ _ _ r h => by simp [proofmarkref27_line.l0] at h, fun _ _ _ _ _ _ _ _ _ _ r h => by simp [proofmarkref27_line.j2] at h⟩
  | k + 1 => by
    obtain ⟨ih0, ih1, ih2⟩ := proofmarkref27_line.mono_l k
    refine ⟨?_, ?_, ?_⟩
    · intro y0 y1 y2 y3 y4 y5 y6 y7
      unfold proofmarkref27_line.j0
      repeat' first
      | (with_reducible exact ih0 _ _ _ _ _ _ _ _)
      | (with_reducible exact ih1 _ _ _ _ _ _ _ _)
      | (with_reducible exact ih2 _ _ _ _ _ _ _ _ _ _)
      | (with_reducible exact proofmarkref27_Num.mono _ _)
      | (with_reducible exact proofmarkref27_cut.mono _ _ _)
      | (with_reducible exact proofmarkref27_number.mono _ _ _)
      | (with_reducible exact LeO.refl _)
      | (with_reducible exact LeO.none _)
      | (with_reducible refine LeO.ite ?_ ?_)
      | (with_reducible refine LeO.bind ?_ (fun _ => ?_))
      | exact ih0 _ _ _ _ _ _ _ _
      | exact ih1 _ _ _ _ _ _ _ _
      | exact ih2 _ _ _ _ _ _ _ _ _ _
      | exact proofmarkref27_Num.mono _ _
      | exact proofmarkref27_cut.mono _ _ _
      | exact proofmarkref27_number.mono _ _ _
      | exact LeO.none _
      | refine LeO.ite ?_ ?_
      | refine LeO.bind ?_ (fun _ => ?_)
    · intro y0 y1 y2 y3 y4 y5 y6 y7
      unfold proofmarkref27_line.l0
      repeat' first
      | (with_reducible exact ih0 _ _ _ _ _ _ _ _)
      | (with_reducible exact ih1 _ _ _ _ _ _ _ _)
      | (with_reducible exact ih2 _ _ _ _ _ _ _ _ _ _)
      | (with_reducible exact proofmarkref27_Num.mono _ _)
      | (with_reducible exact proofmarkref27_cut.mono _ _ _)
      | (with_reducible exact proofmarkref27_number.mono _ _ _)
      | (with_reducible exact LeO.refl _)
      | (with_reducible exact LeO.none _)
      | (with_reducible refine LeO.ite ?_ ?_)
      | (with_reducible refine LeO.bind ?_ (fun _ => ?_))
      | exact ih0 _ _ _ _ _ _ _ _
      | exact ih1 _ _ _ _ _ _ _ _
      | exact ih2 _ _ _ _ _ _ _ _ _ _
      | exact proofmarkref27_Num.mono _ _
      | exact proofmarkref27_cut.mono _ _ _
      | exact proofmarkref27_number.mono _ _ _
      | exact LeO.none _
      | refine LeO.ite ?_ ?_
      | refine LeO.bind ?_ (fun _ => ?_)
    · intro y0 y1 y2 y3 y4 y5 y6 y7 y8 y9
      unfold proofmarkref27_line.j2
      repeat' first
      | (with_reducible exact ih0 _ _ _ _ _ _ _ _)
      | (with_reducible exact ih1 _ _ _ _ _ _ _ _)
      | (with_reducible exact ih2 _ _ _ _ _ _ _ _ _ _)
      | (with_reducible exact proofmarkref27_Num.mono _ _)
      | (with_reducible exact proofmarkref27_cut.mono _ _ _)
      | (with_reducible exact proofmarkref27_number.mono _ _ _)
      | (with_reducible exact LeO.refl _)
      | (with_reducible exact LeO.none _)
      | (with_reducible refine LeO.ite ?_ ?_)
      | (with_reducible refine LeO.bind ?_ (fun _ => ?_))
      | exact ih0 _ _ _ _ _ _ _ _
      | exact ih1 _ _ _ _ _ _ _ _
      | exact ih2 _ _ _ _ _ _ _ _ _ _
      | exact proofmarkref27_Num.mono _ _
      | exact proofmarkref27_cut.mono _ _ _
      | exact proofmarkref27_number.mono _ _ _
      | exact LeO.none _
      | refine LeO.ite ?_ ?_
      | refine LeO.bind ?_ (fun _ => ?_)
theorem proofmarkref27_line.mono : ∀ a0 a1 a2 a3 a4 a5 a6 k, LeO (proofmarkref27_line.f k a0 a1 a2 a3 a4 a5 a6) (proofmarkref27_line.f (k + 1) a0 a1 a2 a3 a4 a5 a6) := by
  intro a0 a1 a2 a3 a4 a5 a6 k
  obtain ⟨ih0, ih1, ih2⟩ := proofmarkref27_line.mono_l k
  unfold proofmarkref27_line.f
  repeat' first
      | (with_reducible exact ih0 _ _ _ _ _ _ _ _)
      | (with_reducible exact ih1 _ _ _ _ _ _ _ _)
      | (with_reducible exact ih2 _ _ _ _ _ _ _ _ _ _)
      | (with_reducible exact proofmarkref27_Num.mono _ _)
      | (with_reducible exact proofmarkref27_cut.mono _ _ _)
      | (with_reducible exact proofmarkref27_number.mono _ _ _)
      | (with_reducible exact LeO.refl _)
      | (with_reducible exact LeO.none _)
      | (with_reducible refine LeO.ite ?_ ?_)
      | (with_reducible refine LeO.bind ?_ (fun _ => ?_))
      | exact ih0 _ _ _ _ _ _ _ _
      | exact ih1 _ _ _ _ _ _ _ _
      | exact ih2 _ _ _ _ _ _ _ _ _ _
      | exact proofmarkref27_Num.mono _ _
      | exact proofmarkref27_cut.mono _ _ _
      | exact proofmarkref27_number.mono _ _ _
      | exact LeO.none _
      | refine LeO.ite ?_ ?_
      | refine LeO.bind ?_ (fun _ => ?_)
def proofmarkref27_line.T3 : Bool × List (List Nat × List Nat) := (true, [([], []), ([0], [0]), ([], []), ([2], [2]), ([3], [3]), ([4], [4]), ([1, 5], [1, 5]), ([6], [6]), ([7], [7]), ([8, 7], [7, 8]), ([9, 7], [7, 9]), ([7], [7]), ([11, 7, 7], [7, 11]), ([12, 7], [7, 12]), ([10, 13, 7], [7, 10, 13]), ([7, 14], [7, 14])])
def proofmarkref27_line.B3 : List Nat := [0, 1, 0, 4, 12, 28, 63, 127, 255, 511, 1023, 255, 2303, 6399, 16383, 32767]
theorem proofmarkref27_line.tab3 : rtab .any (opsOf Tryz.f40 3) = proofmarkref27_line.T3 := by kernel_rfl
theorem proofmarkref27_line.bits3 : waitsOk proofmarkref27_line.T3.2 proofmarkref27_line.B3 = true := by kernel_rfl
def proofmarkref27_line.T9 : Bool × List (List Nat × List Nat) := (true, [([], []), ([0], [0]), ([1], [1]), ([2], [2]), ([3], [3]), ([4, 3], [3, 4]), ([5, 3], [3, 5]), ([3], [3]), ([7, 3], [3, 7]), ([3], [3]), ([8, 9, 3], [3, 8, 9]), ([10, 3], [3, 10]), ([11, 3], [3, 11]), ([6, 12, 3], [3, 6, 12]), ([3, 13], [3, 13])])
def proofmarkref27_line.B9 : List Nat := [0, 1, 3, 7, 15, 31, 63, 15, 143, 15, 911, 1935, 3983, 8191, 16383]
theorem proofmarkref27_line.tab9 : rtab .any (opsOf Tryz.f40 9) = proofmarkref27_line.T9 := by kernel_rfl
theorem proofmarkref27_line.bits9 : waitsOk proofmarkref27_line.T9.2 proofmarkref27_line.B9 = true := by kernel_rfl
set_option maxHeartbeats 8000000 in
set_option maxRecDepth 100000 in
theorem proofmarkref27_line.calls (k : Nat) (A0_0 : Option Addr) (c0_0 : Nat) (l0_0 : List (S125)) (A0_1 : Option Addr) (c0_1 : Nat) (l0_1 : List (S72)) (A0_2 : Option Addr) (c0_2 : Nat) (l0_2 : List (S114)) (A0_3 : Option Addr) (c0_3 : Nat) (l0_3 : List (S105)) (A0_4 : Option Addr) (c0_4 : Nat) (l0_4 : List (S72)) (a1 : Int) (a2 : ByteArray) (r1 : List Int) (r2 : Bool) (w : World) (hr0_0 : Kd.C k125 w A0_0 l0_0.length l0_0) (hc0_0 : l0_0.length ≤ c0_0) (hr0_1 : Kd.C k72 w A0_1 l0_1.length l0_1) (hc0_1 : l0_1.length ≤ c0_1) (hr0_2 : Kd.C k114 w A0_2 l0_2.length l0_2) (hc0_2 : l0_2.length ≤ c0_2) (hr0_3 : Kd.C k105 w A0_3 l0_3.length l0_3) (hc0_3 : l0_3.length ≤ c0_3) (hr0_4 : Kd.C k72 w A0_4 l0_4.length l0_4) (hc0_4 : l0_4.length ≤ c0_4) (h : proofmarkref27_line.f k l0_0 l0_1 l0_2 l0_3 l0_4 a1 a2 = some (r1, r2)) :
    Calls Tryz.prog 40 #[.agg #[.slice A0_0 l0_0.length c0_0, .slice A0_1 l0_1.length c0_1, .slice A0_2 l0_2.length c0_2, .slice A0_3 l0_3.length c0_3, .slice A0_4 l0_4.length c0_4], .int .i64 a1, .string a2] w fun e w' => ∃ v0_ : Value, e = .returned (.tuple #[v0_, .bool r2]) ∧ Kd.R (Kd.int .i64) 3 w' w.heap.size (fun _ => True) v0_ r1 ∧ Below w.heap.size w w' := by
  have hu27 := Tryz.underlying27
  have HR0_0 := Aside0.mk hr0_0
  have HC0_0 := Aside0.mk hc0_0
  clear hr0_0 hc0_0
  have HR0_1 := Aside0.mk hr0_1
  have HC0_1 := Aside0.mk hc0_1
  clear hr0_1 hc0_1
  have HR0_2 := Aside0.mk hr0_2
  have HC0_2 := Aside0.mk hc0_2
  clear hr0_2 hc0_2
  have HR0_3 := Aside0.mk hr0_3
  have HC0_3 := Aside0.mk hc0_3
  clear hr0_3 hc0_3
  have HR0_4 := Aside0.mk hr0_4
  have HC0_4 := Aside0.mk hc0_4
  clear hr0_4 hc0_4
  have HB := Aside0.mk (Below.refl w.heap.size w)
  have H : ((some (([] : List Int) : List Int)).bind fun y226 => ((proofmarkref27_cut.f k a2 (⟨#[32]⟩ : ByteArray)).bind fun t229 => (if (t229.length : Int) = (wrap64 ((l0_1.length : Int) + 1)) then (if 0 < (t229.length : Int) then ((proofmarkref27_Num.f k a1).bind fun t233 => (if t233.size + 1 ≤ 9223372036854775807 then (proofmarkref27_line.j0 k y226 t229 ((rdOf ByteArray.empty t229 0).toList != (t233 ++ (⟨#[58]⟩ : ByteArray)).toList) l0_0 l0_1 l0_2 l0_3 l0_4) else (none))) else (none)) else (proofmarkref27_line.j0 k y226 t229 true l0_0 l0_1 l0_2 l0_3 l0_4)))) = some (r1, r2) := h
  clear h
  obtain ⟨y226, hy226⟩ : ∃ y_ : List Int, y_ = (([] : List Int)) := ⟨_, rfl⟩
  replace H : ((proofmarkref27_cut.f k a2 (⟨#[32]⟩ : ByteArray)).bind fun t229 => (if (t229.length : Int) = (wrap64 ((l0_1.length : Int) + 1)) then (if 0 < (t229.length : Int) then ((proofmarkref27_Num.f k a1).bind fun t233 => (if t233.size + 1 ≤ 9223372036854775807 then (proofmarkref27_line.j0 k y226 t229 ((rdOf ByteArray.empty t229 0).toList != (t233 ++ (⟨#[58]⟩ : ByteArray)).toList) l0_0 l0_1 l0_2 l0_3 l0_4) else (none))) else (none)) else (proofmarkref27_line.j0 k y226 t229 true l0_0 l0_1 l0_2 l0_3 l0_4))) = some (r1, r2) := by first | (have H2_ := (Option.bind_some _ _).symm.trans H; rw [hy226]; with_reducible exact H2_)
  have Ny226 := Aside0.mk hy226
  clear hy226
  replace H := Option.bind_eq_some_iff.mp H
  obtain ⟨t229, A40, H⟩ := H
  replace H : (if (t229.length : Int) = (wrap64 ((l0_1.length : Int) + 1)) then (if 0 < (t229.length : Int) then ((proofmarkref27_Num.f k a1).bind fun t233 => (if t233.size + 1 ≤ 9223372036854775807 then (proofmarkref27_line.j0 k y226 t229 ((rdOf ByteArray.empty t229 0).toList != (t233 ++ (⟨#[58]⟩ : ByteArray)).toList) l0_0 l0_1 l0_2 l0_3 l0_4) else (none))) else (none)) else (proofmarkref27_line.j0 k y226 t229 true l0_0 l0_1 l0_2 l0_3 l0_4)) = some (r1, r2) := H
  have A4 := Aside0.mk A40
  clear A40
  have HC5 := Aside0.mk H
  clear H
  go_enter Tryz.func40, Tryz.ntmps40
  go_upto_region 3 with (first | ((with_reducible refine gate_dst (N := 3) rfl ?_); refine box_event ?hg (N := 3) ?hd (cs := #[.slice A0_0 l0_0.length c0_0, .slice A0_1 l0_1.length c0_1, .slice A0_2 l0_2.length c0_2, .slice A0_3 l0_3.length c0_3, .slice A0_4 l0_4.length c0_4]) (t := 27) ?hr ?_; (case hd => rfl); (case hg => rfl); (case hr => first | (go_simp; done)); intro gb225 hg w6 hbox hb; have n0_ := Aside0.mk (below_step HB.out hb); have n1_ := Aside0.mk (hbox); have n2_ := Aside0.mk ((by rw [hg]; exact (below_size HB.out) : w.heap.size ≤ gb225)); have n3_ := Aside0.mk ((by rw [hg]; exact (below_size HB.out) : w.heap.size ≤ gb225)); clear HB; have HB := n0_; have BK225 := n1_; have GW225 := n2_; have GE225 := n3_; clear n0_ n1_ n2_ n3_; clear hb hbox hg) | ((with_reducible refine gate_dst (N := 14) rfl ?_); refine Kd.R_lit (Kd.int .i64) _ 3 ?hg (N := 14) ?hd (xs := ([] : List Int)) (inner := []) (ok := fun _ => True) (okp := fun _ => True) ?hr ?hp (fun _ hk => hk) trivial (Below.refl _ _) (Nat.le_refl _) (by simp) ?_; (case hd => rfl); (case hg => rfl); (case hr => first | (go_simp; done)); (case hp => exact (Reps.none _ _)); intro v227 w7 ho8 hb hg_ hnew_; clear hg_ hnew_; (first | rw [← Ny226.out] at ho8); have n0_ := Aside0.mk (Kd.R_lower ho8 (below_size HB.out)); have n1_ := Aside0.mk (blk_below BK225.out hb); have n2_ := Aside0.mk (below_step HB.out hb); clear BK225; clear HB; have HO228 := n0_; have BK225 := n1_; have HB := n2_; clear n0_ n1_ n2_; clear hb ho8) | ((with_reducible refine gate_callee (f := 38) rfl ?_); refine goesL_ (some 16) rfl rfl Tryz.func38 (by kernel_rfl) rfl #[.string a2, .string (⟨#[32]⟩ : ByteArray)] rfl (by (try simp only [List.map_toArray, List.map_cons, List.map_nil]); first | rfl) ?_; (with_reducible refine (proofmarkref27_cut.calls k a2 (⟨#[32]⟩ : ByteArray) t229 _ A4.out).mono ?_); rintro e w9 ⟨v230, rfl, ho0, hb⟩; refine ⟨_, rfl, ?_⟩; have n0_ := Aside0.mk (Kd.R_below HO228.out hb); have n1_ := Aside0.mk (Kd.R_lower ho0 (below_size HB.out)); have n2_ := Aside0.mk (blk_below BK225.out hb); have n3_ := Aside0.mk (below_step HB.out hb); clear HO228; clear BK225; clear HB; have HO228 := n0_; have HO231 := n1_; have BK225 := n2_; have HB := n3_; clear n0_ n1_ n2_ n3_; (try clear hb); (try clear hb2); (try clear hk); (try clear hi); (try clear ho0)))
  (try simp only [Act.put, List.setIfInBounds_toArray, List.set_cons_zero, List.set_cons_succ])
  go_cut [32] (fun v32 wc => ∃ (kq : Nat) (x32_4 : Bool), v32 = .bool x32_4 ∧ Aside0 (proofmarkref27_line.j0 kq y226 t229 x32_4 l0_0 l0_1 l0_2 l0_3 l0_4 = some (r1, r2)) ∧ Aside0 (kq ≤ k) ∧ Aside0 (Kd.R (Kd.int .i64) 3 wc w.heap.size (fun _ => True) v227 y226) ∧ Aside0 (Kd.R Kd.string 9 wc w.heap.size (fun _ => True) v230 t229) ∧ Aside0 (wc.heap[gb225]? = some (.cells #[(.slice A0_0 l0_0.length c0_0), (.slice A0_1 l0_1.length c0_1), (.slice A0_2 l0_2.length c0_2), (.slice A0_3 l0_3.length c0_3), (.slice A0_4 l0_4.length c0_4)] 27 (0, 0))) ∧ Aside0 (Below w.heap.size w wc))
  case first =>
    have H := HC5.out
    clear HC5
    by_cases c10 : (t229.length : Int) = (wrap64 ((l0_1.length : Int) + 1))
    · rw [if_pos c10] at H
      have c10b0 : ((t229.length : Int) == (wrap64 ((l0_1.length : Int) + 1))) = true := beq_iff_eq.mpr c10
      have c10b1 : ((t229.length : Int) != (wrap64 ((l0_1.length : Int) + 1))) = false := bne_eq_false_iff_eq.mpr c10
      clear c10
      (first | skip)
      by_cases c11 : 0 < (t229.length : Int)
      · rw [if_pos c11] at H
        have c11b0 : decide (0 < (t229.length : Int)) = true := decide_eq_true c11
        have c11b1 : decide (0 < t229.length) = true := decide_eq_true (by omega)
        clear c11
        replace H := Option.bind_eq_some_iff.mp H
        obtain ⟨t233, A120, H⟩ := H
        replace H : (if t233.size + 1 ≤ 9223372036854775807 then (proofmarkref27_line.j0 k y226 t229 ((rdOf ByteArray.empty t229 0).toList != (t233 ++ (⟨#[58]⟩ : ByteArray)).toList) l0_0 l0_1 l0_2 l0_3 l0_4) else (none)) = some (r1, r2) := H
        have A12 := Aside0.mk A120
        clear A120
        by_cases c13 : t233.size + 1 ≤ 9223372036854775807
        · rw [if_pos c13] at H
          have c13b0 := eq_true c13
          have c13b1 : decide (t233.size + 1 ≤ 9223372036854775807) = true := decide_eq_true c13
          try have c13b2 : (9223372036854775807 < t233.size + 1) = False := eq_false (Nat.not_lt.2 c13)
          have H' := Aside0.mk H
          clear H
          try go_wp2
          have n0_ := Aside0.mk (Kd.R_drew HO228.out)
          have n1_ := Aside0.mk (Kd.R_drew HO231.out)
          have n2_ := Aside0.mk (blk_drew BK225.out)
          have n3_ := Aside0.mk (below_drew1 HB.out)
          clear HO228
          clear HO231
          clear BK225
          clear HB
          have HO228 := n0_
          have HO231 := n1_
          have BK225 := n2_
          have HB := n3_
          clear n0_ n1_ n2_ n3_
          obtain ⟨Ao15, co15, eo15⟩ := Kd.R_slice HO231.out
          (first | subst eo15)
          have p232 : 0 ≤ (0 : Int) := (by omega)
          have q232 : 0 < (t229.length : Int) := of_decide_eq_true (by first | (with_reducible assumption))
          obtain ⟨ad232, e232, hx232_0⟩ := Kd.at_string (Kd.R_reads' HO231.out).2.2 0 p232 q232
          cases e232
          have qi232 : (0 < t229.length) = True := eq_true (by omega)
          (try rw [show ((0 : Int)).toNat = 0 from rfl] at hx232_0)
          (try rw [Addr.add_zero'] at hx232_0)
          replace p232 := eq_true p232
          replace q232 := eq_true q232
          refine start_ (n := 16) (S := fun w' => w'.cell? ⟨gb225, 0, none⟩ = some (.slice A0_0 l0_0.length c0_0) ∧ w'.cell? ⟨gb225, 1, none⟩ = some (.slice A0_1 l0_1.length c0_1) ∧ w'.cell? ⟨gb225, 2, none⟩ = some (.slice A0_2 l0_2.length c0_2) ∧ w'.cell? ⟨gb225, 3, none⟩ = some (.slice A0_3 l0_3.length c0_3) ∧ w'.cell? ⟨gb225, 4, none⟩ = some (.slice A0_4 l0_4.length c0_4) ∧ w'.cell? ad232 = some (.string (rdOf ByteArray.empty t229 0))) (ds := []) #[false, false, false, false, false, false, false, false, false, false, false, false, false, false, false, false] (by kernel_rfl) rfl rfl ⟨(blk_cell BK225.out 0).trans rfl, (blk_cell BK225.out 1).trans rfl, (blk_cell BK225.out 2).trans rfl, (blk_cell BK225.out 3).trans rfl, (blk_cell BK225.out 4).trans rfl, hx232_0⟩ (fun hHeld => ?_); refine with_tabW proofmarkref27_line.tab3 proofmarkref27_line.bits3 (fun HT_ HW_ => ?_)
          generalize w9.drew = w14 at HO228 HO231 BK225 HB hx232_0 hHeld ⊢
          refine pure_ (i := 0) (N := some 17) (v := ?_) (a' := ?_) #[true, false, false, false, false, false, false, false, false, false, false, false, false, false, false, false] rfl rfl (any_of HT_.out (by kernel_rfl)) (fun _ _ _ h => h) (Or.inl ⟨by rfl, ?_⟩) ?_ ?_
          rotate_left
          · intro w'
            go_simp
            with_reducible rfl
          rotate_left
          · simp only [Act.put, List.setIfInBounds_toArray, List.set_cons_zero, List.set_cons_succ, i64_w, i32_w]
            rfl
          refine pure_ (i := 1) (N := some 18) (v := ?_) (a' := ?_) #[true, true, false, false, false, false, false, false, false, false, false, false, false, false, false, false] rfl rfl (any_of HT_.out (by kernel_rfl)) (fun _ _ _ h => h) (Or.inl ⟨by rfl, ?_⟩) ?_ ?_
          rotate_left
          · intro w'
            go_simp
            with_reducible rfl
          rotate_left
          · simp only [Act.put, List.setIfInBounds_toArray, List.set_cons_zero, List.set_cons_succ, i64_w, i32_w]
            rfl
          refine pure_ (i := 2) (N := some 19) (v := ?_) (a' := ?_) #[true, true, true, false, false, false, false, false, false, false, false, false, false, false, false, false] rfl rfl (any_of HT_.out (by kernel_rfl)) (fun _ _ _ h => h) (Or.inl ⟨by rfl, ?_⟩) ?_ ?_
          rotate_left
          · intro w'
            go_simp
            with_reducible rfl
          rotate_left
          · simp only [Act.put, List.setIfInBounds_toArray, List.set_cons_zero, List.set_cons_succ, i64_w, i32_w]
            rfl
          refine take_ (i := 3) (N := some 20) (v := ?_) (a' := ?_) #[true, true, true, true, false, false, false, false, false, false, false, false, false, false, false, false] rfl rfl (take_ofW HT_.out HW_.out (by kernel_rfl)) (fun _ _ _ h => h) (Or.inl ⟨by rfl, ?_⟩) hHeld ?_ ?_
          rotate_left
          · rintro w' ⟨s0, s1, s2, s3, s4, s5⟩
            go_simp
            with_reducible rfl
          rotate_left
          · simp only [Act.put, List.setIfInBounds_toArray, List.set_cons_zero, List.set_cons_succ, i64_w, i32_w]
            rfl
          refine pure_ (i := 4) (N := some 21) (v := ?_) (a' := ?_) #[true, true, true, true, true, false, false, false, false, false, false, false, false, false, false, false] rfl rfl (any_of HT_.out (by kernel_rfl)) (fun _ _ _ h => h) (Or.inl ⟨by rfl, ?_⟩) ?_ ?_
          rotate_left
          · intro w'
            go_simp
            with_reducible rfl
          rotate_left
          · simp only [Act.put, List.setIfInBounds_toArray, List.set_cons_zero, List.set_cons_succ, i64_w, i32_w]
            rfl
          refine pure_ (i := 5) (N := some 22) (v := ?_) (a' := ?_) #[true, true, true, true, true, true, false, false, false, false, false, false, false, false, false, false] rfl rfl (any_of HT_.out (by kernel_rfl)) (fun _ _ _ h => h) (Or.inl ⟨by rfl, ?_⟩) ?_ ?_
          rotate_left
          · intro w'
            go_simp
            with_reducible rfl
          rotate_left
          · simp only [Act.put, List.setIfInBounds_toArray, List.set_cons_zero, List.set_cons_succ, i64_w, i32_w]
            rfl
          refine pure_ (i := 6) (N := some 23) (v := ?_) (a' := ?_) #[true, true, true, true, true, true, true, false, false, false, false, false, false, false, false, false] rfl rfl (any_of HT_.out (by kernel_rfl)) (fun _ _ _ h => h) (Or.inl ⟨by rfl, ?_⟩) ?_ ?_
          rotate_left
          · intro w'
            go_simp
            with_reducible rfl
          rotate_left
          · simp only [Act.put, List.setIfInBounds_toArray, List.set_cons_zero, List.set_cons_succ, i64_w, i32_w]
            rfl
          refine pure_ (i := 7) (N := some 24) (v := ?_) (a' := ?_) #[true, true, true, true, true, true, true, true, false, false, false, false, false, false, false, false] rfl rfl (any_of HT_.out (by kernel_rfl)) (fun _ _ _ h => h) (Or.inl ⟨by rfl, ?_⟩) ?_ ?_
          rotate_left
          · intro w'
            go_simp
            with_reducible rfl
          rotate_left
          · simp only [Act.put, List.setIfInBounds_toArray, List.set_cons_zero, List.set_cons_succ, i64_w, i32_w]
            rfl
          refine pure_ (i := 8) (N := some 25) (v := ?_) (a' := ?_) #[true, true, true, true, true, true, true, true, true, false, false, false, false, false, false, false] rfl rfl (any_of HT_.out (by kernel_rfl)) (fun _ _ _ h => h) (Or.inl ⟨by rfl, ?_⟩) ?_ ?_
          rotate_left
          · intro w'
            go_simp
            with_reducible rfl
          rotate_left
          · simp only [Act.put, List.setIfInBounds_toArray, List.set_cons_zero, List.set_cons_succ, i64_w, i32_w]
            rfl
          refine pure_ (i := 9) (N := some 26) (v := ?_) (a' := ?_) #[true, true, true, true, true, true, true, true, true, true, false, false, false, false, false, false] rfl rfl (any_of HT_.out (by kernel_rfl)) (fun _ _ _ h => h) (Or.inl ⟨by rfl, ?_⟩) ?_ ?_
          rotate_left
          · intro w'
            go_simp
            with_reducible rfl
          rotate_left
          · simp only [Act.put, List.setIfInBounds_toArray, List.set_cons_zero, List.set_cons_succ, i64_w, i32_w]
            rfl
          refine pure_ (i := 11) (N := some 28) (v := ?_) (a' := ?_) #[true, true, true, true, true, true, true, true, true, true, false, true, false, false, false, false] rfl rfl (any_of HT_.out (by kernel_rfl)) (fun _ _ _ h => h) (Or.inl ⟨by rfl, ?_⟩) ?_ ?_
          rotate_left
          · intro w'
            go_simp
            with_reducible rfl
          rotate_left
          · simp only [Act.put, List.setIfInBounds_toArray, List.set_cons_zero, List.set_cons_succ, i64_w, i32_w]
            rfl
          refine take_ (i := 10) (N := some 27) (v := ?_) (a' := ?_) #[true, true, true, true, true, true, true, true, true, true, true, true, false, false, false, false] rfl rfl (take_ofW HT_.out HW_.out (by kernel_rfl)) (fun _ _ _ h => h) (Or.inl ⟨by rfl, ?_⟩) hHeld ?_ ?_
          rotate_left
          · rintro w' ⟨s0, s1, s2, s3, s4, s5⟩
            go_simp
            with_reducible rfl
          rotate_left
          · simp only [Act.put, List.setIfInBounds_toArray, List.set_cons_zero, List.set_cons_succ, i64_w, i32_w]
            rfl
          refine one_ (i := 12) (N := some 29) #[true, true, true, true, true, true, true, true, true, true, true, true, true, false, false, false] rfl rfl (one_of HT_.out (by kernel_rfl)) (by decide) (fun K hK => ?_)
          refine goes_ Tryz.func71 (by kernel_rfl) rfl #[.int .i64 a1] (by rfl) rfl rfl (by (try simp only [List.map_toArray, List.map_cons, List.map_nil]); first | rfl) ?_
          with_reducible refine (proofmarkref27_Num.calls k a1 t233 _ A12.out).mono ?_
          rintro e w16 ⟨rfl, hb⟩
          have HS5_ := (hb.cell (World.block_lt_of_cell? _ _ (hHeld.2.2.2.2.2))).trans (hHeld.2.2.2.2.2)
          refine ⟨_, rfl, ?_⟩
          have n0_ := Aside0.mk (Kd.R_below HO228.out hb)
          have n1_ := Aside0.mk (Kd.R_below HO231.out hb)
          have n2_ := Aside0.mk (blk_below BK225.out hb)
          have n3_ := Aside0.mk (below_step HB.out hb)
          clear HO228
          clear HO231
          clear BK225
          clear HB
          have HO228 := n0_
          have HO231 := n1_
          have BK225 := n2_
          have HB := n3_
          clear n0_ n1_ n2_ n3_
          (try clear hb)
          (try clear hb2)
          (try clear hk)
          (try clear hi)
          refine hK.out _ _ ⟨(blk_cell BK225.out 0).trans rfl, (blk_cell BK225.out 1).trans rfl, (blk_cell BK225.out 2).trans rfl, (blk_cell BK225.out 3).trans rfl, (blk_cell BK225.out 4).trans rfl, HS5_⟩ (fun hHeld => ?_)
          clear hK K
          refine norm_ (a' := ?_) ?_ ?_
          rotate_left
          · show Act.put _ (some 29) _ = _
            simp only [Act.put, List.setIfInBounds_toArray, List.set_cons_zero, List.set_cons_succ, i64_w, i32_w]
            rfl
          refine pure_ (i := 13) (N := some 30) (v := ?_) (a' := ?_) #[true, true, true, true, true, true, true, true, true, true, true, true, true, true, false, false] rfl rfl (any_of HT_.out (by kernel_rfl)) (fun _ _ _ h => h) (Or.inl ⟨by rfl, ?_⟩) ?_ ?_
          rotate_left
          · intro w'
            go_simp
            with_reducible rfl
          rotate_left
          · simp only [Act.put, List.setIfInBounds_toArray, List.set_cons_zero, List.set_cons_succ, i64_w, i32_w]
            rfl
          refine pure_ (i := 14) (N := some 31) (v := ?_) (a' := ?_) #[true, true, true, true, true, true, true, true, true, true, true, true, true, true, true, false] rfl rfl (any_of HT_.out (by kernel_rfl)) (fun _ _ _ h => h) (Or.inl ⟨by rfl, ?_⟩) ?_ ?_
          rotate_left
          · intro w'
            go_simp
            with_reducible rfl
          rotate_left
          · simp only [Act.put, List.setIfInBounds_toArray, List.set_cons_zero, List.set_cons_succ, i64_w, i32_w]
            rfl
          refine pure_ (i := 15) (N := some 32) (v := ?_) (a' := ?_) #[true, true, true, true, true, true, true, true, true, true, true, true, true, true, true, true] rfl rfl (any_of HT_.out (by kernel_rfl)) (fun _ _ _ h => h) (Or.inl ⟨by rfl, ?_⟩) ?_ ?_
          rotate_left
          · intro w'
            go_simp
            with_reducible rfl
          rotate_left
          · simp only [Act.put, List.setIfInBounds_toArray, List.set_cons_zero, List.set_cons_succ, i64_w, i32_w]
            rfl
          refine done_ (done_of HT_.out (by kernel_rfl)) ?_
          try go_wp2
          go_meet
          case rel => exact ⟨_, (((rdOf ByteArray.empty t229 0).toList != (t233 ++ (⟨#[58]⟩ : ByteArray)).toList)), rfl, H', ⟨by first | omega⟩, ⟨by exact HO228.out⟩, ⟨by exact HO231.out⟩, ⟨by exact BK225.out⟩, ⟨by exact HB.out⟩⟩
        · rw [if_neg c13] at H
          exact absurd H (by simp)
      · rw [if_neg c11] at H
        exact absurd H (by simp)
    · rw [if_neg c10] at H
      have c10b0 : ((t229.length : Int) == (wrap64 ((l0_1.length : Int) + 1))) = false := beq_eq_false_iff_ne.mpr c10
      have c10b1 : ((t229.length : Int) != (wrap64 ((l0_1.length : Int) + 1))) = true := bne_iff_ne.mpr c10
      (first | skip)
      have H' := Aside0.mk H
      clear H
      try go_wp2
      have n0_ := Aside0.mk (Kd.R_drew HO228.out)
      have n1_ := Aside0.mk (Kd.R_drew HO231.out)
      have n2_ := Aside0.mk (blk_drew BK225.out)
      have n3_ := Aside0.mk (below_drew1 HB.out)
      clear HO228
      clear HO231
      clear BK225
      clear HB
      have HO228 := n0_
      have HO231 := n1_
      have BK225 := n2_
      have HB := n3_
      clear n0_ n1_ n2_ n3_
      obtain ⟨Ao18, co18, eo18⟩ := Kd.R_slice HO231.out
      (first | subst eo18)
      refine start_ (n := 16) (S := fun w' => w'.cell? ⟨gb225, 0, none⟩ = some (.slice A0_0 l0_0.length c0_0) ∧ w'.cell? ⟨gb225, 1, none⟩ = some (.slice A0_1 l0_1.length c0_1) ∧ w'.cell? ⟨gb225, 2, none⟩ = some (.slice A0_2 l0_2.length c0_2) ∧ w'.cell? ⟨gb225, 3, none⟩ = some (.slice A0_3 l0_3.length c0_3) ∧ w'.cell? ⟨gb225, 4, none⟩ = some (.slice A0_4 l0_4.length c0_4)) (ds := []) #[false, false, false, false, false, false, false, false, false, false, false, false, false, false, false, false] (by kernel_rfl) rfl rfl ⟨(blk_cell BK225.out 0).trans rfl, (blk_cell BK225.out 1).trans rfl, (blk_cell BK225.out 2).trans rfl, (blk_cell BK225.out 3).trans rfl, (blk_cell BK225.out 4).trans rfl⟩ (fun hHeld => ?_); refine with_tabW proofmarkref27_line.tab3 proofmarkref27_line.bits3 (fun HT_ HW_ => ?_)
      generalize w9.drew = w17 at HO228 HO231 BK225 HB hHeld ⊢
      refine pure_ (i := 0) (N := some 17) (v := ?_) (a' := ?_) #[true, false, false, false, false, false, false, false, false, false, false, false, false, false, false, false] rfl rfl (any_of HT_.out (by kernel_rfl)) (fun _ _ _ h => h) (Or.inl ⟨by rfl, ?_⟩) ?_ ?_
      rotate_left
      · intro w'
        go_simp
        with_reducible rfl
      rotate_left
      · simp only [Act.put, List.setIfInBounds_toArray, List.set_cons_zero, List.set_cons_succ, i64_w, i32_w]
        rfl
      refine pure_ (i := 1) (N := some 18) (v := ?_) (a' := ?_) #[true, true, false, false, false, false, false, false, false, false, false, false, false, false, false, false] rfl rfl (any_of HT_.out (by kernel_rfl)) (fun _ _ _ h => h) (Or.inl ⟨by rfl, ?_⟩) ?_ ?_
      rotate_left
      · intro w'
        go_simp
        with_reducible rfl
      rotate_left
      · simp only [Act.put, List.setIfInBounds_toArray, List.set_cons_zero, List.set_cons_succ, i64_w, i32_w]
        rfl
      refine pure_ (i := 2) (N := some 19) (v := ?_) (a' := ?_) #[true, true, true, false, false, false, false, false, false, false, false, false, false, false, false, false] rfl rfl (any_of HT_.out (by kernel_rfl)) (fun _ _ _ h => h) (Or.inl ⟨by rfl, ?_⟩) ?_ ?_
      rotate_left
      · intro w'
        go_simp
        with_reducible rfl
      rotate_left
      · simp only [Act.put, List.setIfInBounds_toArray, List.set_cons_zero, List.set_cons_succ, i64_w, i32_w]
        rfl
      refine take_ (i := 3) (N := some 20) (v := ?_) (a' := ?_) #[true, true, true, true, false, false, false, false, false, false, false, false, false, false, false, false] rfl rfl (take_ofW HT_.out HW_.out (by kernel_rfl)) (fun _ _ _ h => h) (Or.inl ⟨by rfl, ?_⟩) hHeld ?_ ?_
      rotate_left
      · rintro w' ⟨s0, s1, s2, s3, s4⟩
        go_simp
        with_reducible rfl
      rotate_left
      · simp only [Act.put, List.setIfInBounds_toArray, List.set_cons_zero, List.set_cons_succ, i64_w, i32_w]
        rfl
      refine pure_ (i := 4) (N := some 21) (v := ?_) (a' := ?_) #[true, true, true, true, true, false, false, false, false, false, false, false, false, false, false, false] rfl rfl (any_of HT_.out (by kernel_rfl)) (fun _ _ _ h => h) (Or.inl ⟨by rfl, ?_⟩) ?_ ?_
      rotate_left
      · intro w'
        go_simp
        with_reducible rfl
      rotate_left
      · simp only [Act.put, List.setIfInBounds_toArray, List.set_cons_zero, List.set_cons_succ, i64_w, i32_w]
        rfl
      refine pure_ (i := 5) (N := some 22) (v := ?_) (a' := ?_) #[true, true, true, true, true, true, false, false, false, false, false, false, false, false, false, false] rfl rfl (any_of HT_.out (by kernel_rfl)) (fun _ _ _ h => h) (Or.inl ⟨by rfl, ?_⟩) ?_ ?_
      rotate_left
      · intro w'
        go_simp
        with_reducible rfl
      rotate_left
      · simp only [Act.put, List.setIfInBounds_toArray, List.set_cons_zero, List.set_cons_succ, i64_w, i32_w]
        rfl
      refine pure_ (i := 6) (N := some 23) (v := ?_) (a' := ?_) #[true, true, true, true, true, true, true, false, false, false, false, false, false, false, false, false] rfl rfl (any_of HT_.out (by kernel_rfl)) (fun _ _ _ h => h) (Or.inl ⟨by rfl, ?_⟩) ?_ ?_
      rotate_left
      · intro w'
        go_simp
        with_reducible rfl
      rotate_left
      · simp only [Act.put, List.setIfInBounds_toArray, List.set_cons_zero, List.set_cons_succ, i64_w, i32_w]
        rfl
      refine pure_ (i := 7) (N := some 24) (v := ?_) (a' := ?_) #[true, true, true, true, true, true, true, true, false, false, false, false, false, false, false, false] rfl rfl (any_of HT_.out (by kernel_rfl)) (fun _ _ _ h => h) (Or.inl ⟨by rfl, ?_⟩) ?_ ?_
      rotate_left
      · intro w'
        go_simp
        with_reducible rfl
      rotate_left
      · simp only [Act.put, List.setIfInBounds_toArray, List.set_cons_zero, List.set_cons_succ, i64_w, i32_w]
        rfl
      refine pure_ (i := 8) (N := some 25) (v := undef) (a' := ?_) #[true, true, true, true, true, true, true, true, true, false, false, false, false, false, false, false] rfl rfl (any_of HT_.out (by kernel_rfl)) (fun _ _ _ h => h) (Or.inr ⟨by rfl, rfl⟩) ?_ ?_
      rotate_left
      · simp only [Act.put, List.setIfInBounds_toArray, List.set_cons_zero, List.set_cons_succ, i64_w, i32_w]
        rfl
      refine pure_ (i := 9) (N := some 26) (v := undef) (a' := ?_) #[true, true, true, true, true, true, true, true, true, true, false, false, false, false, false, false] rfl rfl (any_of HT_.out (by kernel_rfl)) (fun _ _ _ h => h) (Or.inr ⟨by rfl, rfl⟩) ?_ ?_
      rotate_left
      · simp only [Act.put, List.setIfInBounds_toArray, List.set_cons_zero, List.set_cons_succ, i64_w, i32_w]
        rfl
      refine pure_ (i := 10) (N := some 27) (v := undef) (a' := ?_) #[true, true, true, true, true, true, true, true, true, true, true, false, false, false, false, false] rfl rfl (any_of HT_.out (by kernel_rfl)) (fun _ _ _ h => h) (Or.inr ⟨by rfl, rfl⟩) ?_ ?_
      rotate_left
      · simp only [Act.put, List.setIfInBounds_toArray, List.set_cons_zero, List.set_cons_succ, i64_w, i32_w]
        rfl
      refine pure_ (i := 11) (N := some 28) (v := undef) (a' := ?_) #[true, true, true, true, true, true, true, true, true, true, true, true, false, false, false, false] rfl rfl (any_of HT_.out (by kernel_rfl)) (fun _ _ _ h => h) (Or.inr ⟨by rfl, rfl⟩) ?_ ?_
      rotate_left
      · simp only [Act.put, List.setIfInBounds_toArray, List.set_cons_zero, List.set_cons_succ, i64_w, i32_w]
        rfl
      refine pure_ (i := 12) (N := some 29) (v := undef) (a' := ?_) #[true, true, true, true, true, true, true, true, true, true, true, true, true, false, false, false] rfl rfl (any_of HT_.out (by kernel_rfl)) (fun _ _ _ h => h) (Or.inr ⟨by rfl, rfl⟩) ?_ ?_
      rotate_left
      · simp only [Act.put, List.setIfInBounds_toArray, List.set_cons_zero, List.set_cons_succ, i64_w, i32_w]
        rfl
      refine pure_ (i := 13) (N := some 30) (v := undef) (a' := ?_) #[true, true, true, true, true, true, true, true, true, true, true, true, true, true, false, false] rfl rfl (any_of HT_.out (by kernel_rfl)) (fun _ _ _ h => h) (Or.inr ⟨by rfl, rfl⟩) ?_ ?_
      rotate_left
      · simp only [Act.put, List.setIfInBounds_toArray, List.set_cons_zero, List.set_cons_succ, i64_w, i32_w]
        rfl
      refine pure_ (i := 14) (N := some 31) (v := undef) (a' := ?_) #[true, true, true, true, true, true, true, true, true, true, true, true, true, true, true, false] rfl rfl (any_of HT_.out (by kernel_rfl)) (fun _ _ _ h => h) (Or.inr ⟨by rfl, rfl⟩) ?_ ?_
      rotate_left
      · simp only [Act.put, List.setIfInBounds_toArray, List.set_cons_zero, List.set_cons_succ, i64_w, i32_w]
        rfl
      refine pure_ (i := 15) (N := some 32) (v := ?_) (a' := ?_) #[true, true, true, true, true, true, true, true, true, true, true, true, true, true, true, true] rfl rfl (any_of HT_.out (by kernel_rfl)) (fun _ _ _ h => h) (Or.inl ⟨by rfl, ?_⟩) ?_ ?_
      rotate_left
      · intro w'
        go_simp
        with_reducible rfl
      rotate_left
      · simp only [Act.put, List.setIfInBounds_toArray, List.set_cons_zero, List.set_cons_succ, i64_w, i32_w]
        rfl
      refine done_ (done_of HT_.out (by kernel_rfl)) ?_
      try go_wp2
      go_meet
      case rel => exact ⟨_, (true), rfl, H', ⟨by first | omega⟩, ⟨by exact HO228.out⟩, ⟨by exact HO231.out⟩, ⟨by exact BK225.out⟩, ⟨by exact HB.out⟩⟩
  case rest =>
    clear HC5
    try clear c1
    try clear p2
    try clear q2
    try clear hx2
    try clear qi2
    try clear c3
    try clear c4
    try clear p6
    try clear c7
    try clear c10
    try clear c10b0
    try clear c10b1
    try clear c11
    try clear c11b0
    try clear c11b1
    try clear c13
    try clear c13b0
    try clear c13b1
    try clear c13b2
    try clear hx232_0
    try clear p232
    try clear q232
    obtain ⟨kq, x32_4, rfl, HA, HJ4, HO_8, HO_9, BK225, HB⟩ := hcut
    cases kq with
    | zero => exact absurd HA.out (by simp [proofmarkref27_line.j0])
    | succ kj4 =>
      have H := HA.out
      clear HA
      simp only [proofmarkref27_line.j0] at H
      by_cases c19 : x32_4 = true
      · subst c19
        have H1 : (some (([] : List Int), false)) = some (r1, r2) := by rw [if_pos rfl] at H; exact H
        clear H
        have H := H1
        clear H1
        simp only [Option.some.injEq, Prod.mk.injEq] at H
        obtain ⟨rfl, rfl⟩ := H
        go_wp2
        go_ret2
        exact ⟨_, by first | rfl, by first | exact Kd.R_nil _ _ _ _ _, by exact HB.out⟩
      · replace c19 := Bool.eq_false_iff.mpr c19
        subst c19
        have H1 : (proofmarkref27_line.l0 kj4 y226 t229 0 l0_0 l0_1 l0_2 l0_3 l0_4) = some (r1, r2) := by rw [if_neg (show ¬ (false = true) by decide)] at H; exact H
        clear H
        have H := H1
        clear H1
        have H' := Aside0.mk H
        clear H
        go_wp2
        try simp only [Act.put, List.setIfInBounds_toArray, List.set_cons_succ, List.set_cons_zero]
        go_loopg [8, 10] kj4 (fun kq v8 v10 w' => ∃ (x8_2 : List Int) (x10_2 : Int), v10 = .int .i64 x10_2 ∧ Aside0 (proofmarkref27_line.l0 kq x8_2 t229 x10_2 l0_0 l0_1 l0_2 l0_3 l0_4 = some (r1, r2)) ∧ Aside0 (kq ≤ kj4) ∧ Aside0 (Kd.R (Kd.int .i64) 3 w' w.heap.size (fun _ => True) v8 x8_2) ∧ Aside0 (Kd.R Kd.string 9 w' w.heap.size (fun _ => True) v230 t229) ∧ Aside0 (w'.heap[gb225]? = some (.cells #[(.slice A0_0 l0_0.length c0_0), (.slice A0_1 l0_1.length c0_1), (.slice A0_2 l0_2.length c0_2), (.slice A0_3 l0_3.length c0_3), (.slice A0_4 l0_4.length c0_4)] 27 (0, 0))) ∧ Aside0 (Below w.heap.size w w'))
        case atStart => exact ⟨(y226), (0), rfl, H', ⟨Nat.le_refl _⟩, ⟨by exact HO_8.out⟩, ⟨by exact HO_9.out⟩, ⟨by exact BK225.out⟩, ⟨by exact HB.out⟩⟩
        case round =>
          clear H'
          try clear c1
          try clear p2
          try clear q2
          try clear hx2
          try clear qi2
          try clear c3
          try clear c4
          try clear p6
          try clear c7
          try clear c10
          try clear c10b0
          try clear c10b1
          try clear c11
          try clear c11b0
          try clear c11b1
          try clear c13
          try clear c13b0
          try clear c13b1
          try clear c13b2
          try clear c19
          try clear hx232_0
          try clear p2
          try clear p232
          try clear p6
          try clear q2
          try clear q232
          obtain ⟨x8_2, x10_2, rfl, HA, HK2, HO_8, HO_9, BK225, HB⟩ := hrel
          cases gk with
          | zero => exact absurd HA.out (by simp [proofmarkref27_line.l0])
          | succ k2 =>
            have H := HA.out
            clear HA
            simp only [proofmarkref27_line.l0] at H
            by_cases c20 : x10_2 < (l0_1.length : Int)
            · rw [if_pos c20] at H
              have c20b0 : decide (x10_2 < (l0_1.length : Int)) = true := decide_eq_true c20
              clear c20
              obtain ⟨ji21, hji21⟩ : ∃ j_ : Int, (wrap64 (x10_2 + 1)) = j_ := ⟨_, rfl⟩
              replace H : (if 0 ≤ (ji21) then (if (ji21) < (t229.length : Int) then ((proofmarkref27_cut.f k2 (rdOf ByteArray.empty t229 (ji21)) (⟨#[61]⟩ : ByteArray)).bind fun t235 => (if (t235.length : Int) = 2 then (if 0 < (t235.length : Int) then (if 0 ≤ x10_2 then (proofmarkref27_line.j2 k2 x8_2 t229 x10_2 t235 ((rdOf ByteArray.empty t235 0).toList != ((rd_T72 l0_1 x10_2).f0).toList) l0_0 l0_1 l0_2 l0_3 l0_4) else (none)) else (none)) else (proofmarkref27_line.j2 k2 x8_2 t229 x10_2 t235 true l0_0 l0_1 l0_2 l0_3 l0_4))) else (none)) else (none)) = some (r1, r2) := by first | (rw [hji21] at H; exact H)
              have hji21w : (IntKind.i64.wrap (x10_2 + 1)) = ji21 := (i64_w _).trans hji21
              by_cases c22 : 0 ≤ (ji21)
              · rw [if_pos c22] at H
                have c22b0 : decide (0 ≤ (ji21)) = true := decide_eq_true c22
                clear c22
                by_cases c23 : (ji21) < (t229.length : Int)
                · rw [if_pos c23] at H
                  have c23b0 : decide ((ji21) < (t229.length : Int)) = true := decide_eq_true c23
                  clear c23
                  replace H := Option.bind_eq_some_iff.mp H
                  obtain ⟨t235, A240, H⟩ := H
                  replace H : (if (t235.length : Int) = 2 then (if 0 < (t235.length : Int) then (if 0 ≤ x10_2 then (proofmarkref27_line.j2 k2 x8_2 t229 x10_2 t235 ((rdOf ByteArray.empty t235 0).toList != ((rd_T72 l0_1 x10_2).f0).toList) l0_0 l0_1 l0_2 l0_3 l0_4) else (none)) else (none)) else (proofmarkref27_line.j2 k2 x8_2 t229 x10_2 t235 true l0_0 l0_1 l0_2 l0_3 l0_4)) = some (r1, r2) := H
                  have A24 := Aside0.mk A240
                  clear A240
                  have HC25 := Aside0.mk H
                  clear H
                  have hcz26_0 : wr.cell? ⟨gb225, 0, none⟩ = some (.slice A0_0 l0_0.length c0_0) := (blk_cell BK225.out 0).trans rfl
                  have hcz26_1 : wr.cell? ⟨gb225, 1, none⟩ = some (.slice A0_1 l0_1.length c0_1) := (blk_cell BK225.out 1).trans rfl
                  have hcz26_2 : wr.cell? ⟨gb225, 2, none⟩ = some (.slice A0_2 l0_2.length c0_2) := (blk_cell BK225.out 2).trans rfl
                  have hcz26_3 : wr.cell? ⟨gb225, 3, none⟩ = some (.slice A0_3 l0_3.length c0_3) := (blk_cell BK225.out 3).trans rfl
                  have hcz26_4 : wr.cell? ⟨gb225, 4, none⟩ = some (.slice A0_4 l0_4.length c0_4) := (blk_cell BK225.out 4).trans rfl
                  have hfz26_0 := blk_frozen BK225.out 0
                  have hfz26_1 := blk_frozen BK225.out 1
                  have hfz26_2 := blk_frozen BK225.out 2
                  have hfz26_3 := blk_frozen BK225.out 3
                  have hfz26_4 := blk_frozen BK225.out 4
                  obtain ⟨Ao27, co27, eo27⟩ := Kd.R_slice HO_9.out
                  subst eo27
                  have p234 : 0 ≤ ((ji21) : Int) := of_decide_eq_true (by first | (with_reducible assumption))
                  have q234 : (ji21) < (t229.length : Int) := of_decide_eq_true (by first | (with_reducible assumption))
                  obtain ⟨ad234, e234, hx234_0⟩ := Kd.at_string (Kd.R_reads' HO_9.out).2.2 (ji21) p234 q234
                  cases e234
                  replace p234 := eq_true p234
                  replace q234 := eq_true q234
                  go_upto_region 9 with (first | ((with_reducible refine gate_callee (f := 38) rfl ?_); refine goesL_ (some 45) rfl rfl Tryz.func38 (by kernel_rfl) rfl #[.string (rdOf ByteArray.empty t229 (ji21)), .string (⟨#[61]⟩ : ByteArray)] rfl (by (try simp only [List.map_toArray, List.map_cons, List.map_nil]); first | rfl) ?_; (with_reducible refine (proofmarkref27_cut.calls k2 (rdOf ByteArray.empty t229 (ji21)) (⟨#[61]⟩ : ByteArray) t235 _ A24.out).mono ?_); rintro e w28 ⟨v236, rfl, ho0, hb⟩; refine ⟨_, rfl, ?_⟩; have n0_ := Aside0.mk (Kd.R_below HO_8.out hb); have n1_ := Aside0.mk (Kd.R_elder' HO_9.out (Kd.R_base ho0) hb); have n2_ := Aside0.mk (Kd.R_lower (Kd.R_new' ho0 (Kd.R_lt HO_9.out)) (below_size HB.out)); have n3_ := Aside0.mk (blk_below BK225.out hb); have n4_ := Aside0.mk (below_step HB.out hb); clear HO_8; clear HO_9; clear BK225; clear HB; have HO_8 := n0_; have HO_9 := n1_; have HO237 := n2_; have BK225 := n3_; have HB := n4_; clear n0_ n1_ n2_ n3_ n4_; (try clear hb); (try clear hb2); (try clear hk); (try clear hi); (try clear ho0)))
                  (try simp only [Act.put, List.setIfInBounds_toArray, List.set_cons_zero, List.set_cons_succ])
                  go_cut [60] (fun v60 wc => ∃ (kq : Nat) (x60_24 : Bool), v60 = .bool x60_24 ∧ Aside0 (proofmarkref27_line.j2 kq x8_2 t229 x10_2 t235 x60_24 l0_0 l0_1 l0_2 l0_3 l0_4 = some (r1, r2)) ∧ Aside0 (kq ≤ k2) ∧ Aside0 (Kd.R (Kd.int .i64) 3 wc w.heap.size (fun _ => True) u8 x8_2) ∧ Aside0 (Kd.R Kd.string 9 wc w.heap.size (fun k_ => some k_ ≠ (v236 : Value).ownBlock) (.slice (some ad234) t229.length co27) t229) ∧ Aside0 (Kd.R Kd.string 9 wc w.heap.size (fun k_ => some k_ ≠ ((.slice (some ad234) t229.length co27) : Value).ownBlock) v236 t235) ∧ Aside0 (wc.heap[gb225]? = some (.cells #[(.slice A0_0 l0_0.length c0_0), (.slice A0_1 l0_1.length c0_1), (.slice A0_2 l0_2.length c0_2), (.slice A0_3 l0_3.length c0_3), (.slice A0_4 l0_4.length c0_4)] 27 (0, 0))) ∧ Aside0 (Below w.heap.size w wc))
                  case first =>
                    have H := HC25.out
                    clear HC25
                    by_cases c29 : (t235.length : Int) = 2
                    · rw [if_pos c29] at H
                      have c29b0 : ((t235.length : Int) == 2) = true := beq_iff_eq.mpr c29
                      have c29b1 : ((t235.length : Int) != 2) = false := bne_eq_false_iff_eq.mpr c29
                      clear c29
                      (first | skip)
                      by_cases c30 : 0 < (t235.length : Int)
                      · rw [if_pos c30] at H
                        have c30b0 : decide (0 < (t235.length : Int)) = true := decide_eq_true c30
                        have c30b1 : decide (0 < t235.length) = true := decide_eq_true (by omega)
                        clear c30
                        by_cases c31 : 0 ≤ x10_2
                        · rw [if_pos c31] at H
                          have c31b0 : decide (0 ≤ x10_2) = true := decide_eq_true c31
                          clear c31
                          have H' := Aside0.mk H
                          clear H
                          try go_wp2
                          have n0_ := Aside0.mk (Kd.R_drew HO_8.out)
                          have n1_ := Aside0.mk (Kd.R_drew HO_9.out)
                          have n2_ := Aside0.mk (Kd.R_drew HO237.out)
                          have n3_ := Aside0.mk (blk_drew BK225.out)
                          have n4_ := Aside0.mk (below_drew1 HB.out)
                          clear HO_8
                          clear HO_9
                          clear HO237
                          clear BK225
                          clear HB
                          have HO_8 := n0_
                          have HO_9 := n1_
                          have HO237 := n2_
                          have BK225 := n3_
                          have HB := n4_
                          clear n0_ n1_ n2_ n3_ n4_
                          obtain ⟨Ao33, co33, eo33⟩ := Kd.R_slice HO237.out
                          (first | subst eo33)
                          have p238 : 0 ≤ (0 : Int) := (by omega)
                          have q238 : 0 < (t235.length : Int) := of_decide_eq_true (by first | (with_reducible assumption))
                          obtain ⟨ad238, e238, hx238_0⟩ := Kd.at_string (Kd.R_reads' HO237.out).2.2 0 p238 q238
                          cases e238
                          have qi238 : (0 < t235.length) = True := eq_true (by omega)
                          (try rw [show ((0 : Int)).toNat = 0 from rfl] at hx238_0)
                          (try rw [Addr.add_zero'] at hx238_0)
                          replace p238 := eq_true p238
                          replace q238 := eq_true q238
                          have p239 : 0 ≤ (x10_2 : Int) := of_decide_eq_true (by first | (with_reducible assumption))
                          have q239 : x10_2 < (l0_1.length : Int) := of_decide_eq_true (by first | (with_reducible assumption))
                          obtain ⟨ad239, e239, hx239_0, hx239_1⟩ := at_T72 HR0_1.out x10_2 p239 q239
                          have hw239_1 := hx239_1
                          have hw239_0 := hx239_0
                          cases e239
                          replace hx239_0 := (HB.out.cell (World.block_lt_of_cell? w _ hx239_0)).trans hx239_0
                          replace hx239_1 := (HB.out.cell (World.block_lt_of_cell? w _ hx239_1)).trans hx239_1
                          replace p239 := eq_true p239
                          replace q239 := eq_true q239
                          refine start_ (n := 15) (S := fun w' => w'.cell? ⟨gb225, 0, none⟩ = some (.slice A0_0 l0_0.length c0_0) ∧ w'.cell? ⟨gb225, 1, none⟩ = some (.slice (some ad239) l0_1.length c0_1) ∧ w'.cell? ⟨gb225, 2, none⟩ = some (.slice A0_2 l0_2.length c0_2) ∧ w'.cell? ⟨gb225, 3, none⟩ = some (.slice A0_3 l0_3.length c0_3) ∧ w'.cell? ⟨gb225, 4, none⟩ = some (.slice A0_4 l0_4.length c0_4) ∧ w'.cell? ad238 = some (.string (rdOf ByteArray.empty t235 0)) ∧ w'.cell? (ad239.add ((x10_2).toNat * 2)) = some (.string ((rd_T72 l0_1 x10_2).f0)) ∧ w'.cell? ⟨(ad239.add ((x10_2).toNat * 2)).block, (ad239.add ((x10_2).toNat * 2)).off + 1, none⟩ = some (.int .i64 ((rd_T72 l0_1 x10_2).f1))) (ds := []) #[false, false, false, false, false, false, false, false, false, false, false, false, false, false, false] (by kernel_rfl) rfl rfl ⟨(blk_cell BK225.out 0).trans rfl, (blk_cell BK225.out 1).trans rfl, (blk_cell BK225.out 2).trans rfl, (blk_cell BK225.out 3).trans rfl, (blk_cell BK225.out 4).trans rfl, hx238_0, ((HB.out.cell (World.block_lt_of_cell? w _ hw239_0)).trans hw239_0), ((HB.out.cell (World.block_lt_of_cell? w _ hw239_1)).trans hw239_1)⟩ (fun hHeld => ?_); refine with_tabW proofmarkref27_line.tab9 proofmarkref27_line.bits9 (fun HT_ HW_ => ?_)
                          generalize w28.drew = w32 at HO_8 HO_9 HO237 BK225 HB hx238_0 hx239_0 hx239_1 hHeld ⊢
                          refine pure_ (i := 0) (N := some 46) (v := ?_) (a' := ?_) #[true, false, false, false, false, false, false, false, false, false, false, false, false, false, false] rfl rfl (any_of HT_.out (by kernel_rfl)) (fun _ _ _ h => h) (Or.inl ⟨by rfl, ?_⟩) ?_ ?_
                          rotate_left
                          · intro w'
                            go_simp
                            with_reducible rfl
                          rotate_left
                          · simp only [Act.put, List.setIfInBounds_toArray, List.set_cons_zero, List.set_cons_succ, i64_w, i32_w]
                            rfl
                          refine pure_ (i := 1) (N := some 47) (v := ?_) (a' := ?_) #[true, true, false, false, false, false, false, false, false, false, false, false, false, false, false] rfl rfl (any_of HT_.out (by kernel_rfl)) (fun _ _ _ h => h) (Or.inl ⟨by rfl, ?_⟩) ?_ ?_
                          rotate_left
                          · intro w'
                            go_simp
                            with_reducible rfl
                          rotate_left
                          · simp only [Act.put, List.setIfInBounds_toArray, List.set_cons_zero, List.set_cons_succ, i64_w, i32_w]
                            rfl
                          refine pure_ (i := 2) (N := some 48) (v := ?_) (a' := ?_) #[true, true, true, false, false, false, false, false, false, false, false, false, false, false, false] rfl rfl (any_of HT_.out (by kernel_rfl)) (fun _ _ _ h => h) (Or.inl ⟨by rfl, ?_⟩) ?_ ?_
                          rotate_left
                          · intro w'
                            go_simp
                            with_reducible rfl
                          rotate_left
                          · simp only [Act.put, List.setIfInBounds_toArray, List.set_cons_zero, List.set_cons_succ, i64_w, i32_w]
                            rfl
                          refine pure_ (i := 3) (N := some 49) (v := ?_) (a' := ?_) #[true, true, true, true, false, false, false, false, false, false, false, false, false, false, false] rfl rfl (any_of HT_.out (by kernel_rfl)) (fun _ _ _ h => h) (Or.inl ⟨by rfl, ?_⟩) ?_ ?_
                          rotate_left
                          · intro w'
                            go_simp
                            with_reducible rfl
                          rotate_left
                          · simp only [Act.put, List.setIfInBounds_toArray, List.set_cons_zero, List.set_cons_succ, i64_w, i32_w]
                            rfl
                          refine pure_ (i := 4) (N := some 50) (v := ?_) (a' := ?_) #[true, true, true, true, true, false, false, false, false, false, false, false, false, false, false] rfl rfl (any_of HT_.out (by kernel_rfl)) (fun _ _ _ h => h) (Or.inl ⟨by rfl, ?_⟩) ?_ ?_
                          rotate_left
                          · intro w'
                            go_simp
                            with_reducible rfl
                          rotate_left
                          · simp only [Act.put, List.setIfInBounds_toArray, List.set_cons_zero, List.set_cons_succ, i64_w, i32_w]
                            rfl
                          refine pure_ (i := 5) (N := some 51) (v := ?_) (a' := ?_) #[true, true, true, true, true, true, false, false, false, false, false, false, false, false, false] rfl rfl (any_of HT_.out (by kernel_rfl)) (fun _ _ _ h => h) (Or.inl ⟨by rfl, ?_⟩) ?_ ?_
                          rotate_left
                          · intro w'
                            go_simp
                            with_reducible rfl
                          rotate_left
                          · simp only [Act.put, List.setIfInBounds_toArray, List.set_cons_zero, List.set_cons_succ, i64_w, i32_w]
                            rfl
                          refine pure_ (i := 7) (N := some 53) (v := ?_) (a' := ?_) #[true, true, true, true, true, true, false, true, false, false, false, false, false, false, false] rfl rfl (any_of HT_.out (by kernel_rfl)) (fun _ _ _ h => h) (Or.inl ⟨by rfl, ?_⟩) ?_ ?_
                          rotate_left
                          · intro w'
                            go_simp
                            with_reducible rfl
                          rotate_left
                          · simp only [Act.put, List.setIfInBounds_toArray, List.set_cons_zero, List.set_cons_succ, i64_w, i32_w]
                            rfl
                          refine pure_ (i := 9) (N := some 55) (v := ?_) (a' := ?_) #[true, true, true, true, true, true, false, true, false, true, false, false, false, false, false] rfl rfl (any_of HT_.out (by kernel_rfl)) (fun _ _ _ h => h) (Or.inl ⟨by rfl, ?_⟩) ?_ ?_
                          rotate_left
                          · intro w'
                            go_simp
                            with_reducible rfl
                          rotate_left
                          · simp only [Act.put, List.setIfInBounds_toArray, List.set_cons_zero, List.set_cons_succ, i64_w, i32_w]
                            rfl
                          refine take_ (i := 6) (N := some 52) (v := ?_) (a' := ?_) #[true, true, true, true, true, true, true, true, false, true, false, false, false, false, false] rfl rfl (take_ofW HT_.out HW_.out (by kernel_rfl)) (fun _ _ _ h => h) (Or.inl ⟨by rfl, ?_⟩) hHeld ?_ ?_
                          rotate_left
                          · rintro w' ⟨s0, s1, s2, s3, s4, s5, s6, s7⟩
                            go_simp
                            with_reducible rfl
                          rotate_left
                          · simp only [Act.put, List.setIfInBounds_toArray, List.set_cons_zero, List.set_cons_succ, i64_w, i32_w]
                            rfl
                          refine take_ (i := 8) (N := some 54) (v := ?_) (a' := ?_) #[true, true, true, true, true, true, true, true, true, true, false, false, false, false, false] rfl rfl (take_ofW HT_.out HW_.out (by kernel_rfl)) (fun _ _ _ h => h) (Or.inl ⟨by rfl, ?_⟩) hHeld ?_ ?_
                          rotate_left
                          · rintro w' ⟨s0, s1, s2, s3, s4, s5, s6, s7⟩
                            go_simp
                            with_reducible rfl
                          rotate_left
                          · simp only [Act.put, List.setIfInBounds_toArray, List.set_cons_zero, List.set_cons_succ, i64_w, i32_w]
                            rfl
                          refine pure_ (i := 10) (N := some 56) (v := ?_) (a' := ?_) #[true, true, true, true, true, true, true, true, true, true, true, false, false, false, false] rfl rfl (any_of HT_.out (by kernel_rfl)) (fun _ _ _ h => h) (Or.inl ⟨by rfl, ?_⟩) ?_ ?_
                          rotate_left
                          · intro w'
                            go_simp
                            with_reducible rfl
                          rotate_left
                          · simp only [Act.put, List.setIfInBounds_toArray, List.set_cons_zero, List.set_cons_succ, i64_w, i32_w]
                            rfl
                          refine pure_ (i := 11) (N := some 57) (v := ?_) (a' := ?_) #[true, true, true, true, true, true, true, true, true, true, true, true, false, false, false] rfl rfl (any_of HT_.out (by kernel_rfl)) (fun _ _ _ h => h) (Or.inl ⟨by rfl, ?_⟩) ?_ ?_
                          rotate_left
                          · intro w'
                            go_simp
                            with_reducible rfl
                          rotate_left
                          · simp only [Act.put, List.setIfInBounds_toArray, List.set_cons_zero, List.set_cons_succ, i64_w, i32_w]
                            rfl
                          refine take_ (i := 12) (N := some 58) (v := ?_) (a' := ?_) #[true, true, true, true, true, true, true, true, true, true, true, true, true, false, false] rfl rfl (take_ofW HT_.out HW_.out (by kernel_rfl)) (fun _ _ _ h => h) (Or.inl ⟨by rfl, ?_⟩) hHeld ?_ ?_
                          rotate_left
                          · rintro w' ⟨s0, s1, s2, s3, s4, s5, s6, s7⟩
                            go_simp
                            with_reducible rfl
                          rotate_left
                          · simp only [Act.put, List.setIfInBounds_toArray, List.set_cons_zero, List.set_cons_succ, i64_w, i32_w]
                            rfl
                          refine pure_ (i := 13) (N := some 59) (v := ?_) (a' := ?_) #[true, true, true, true, true, true, true, true, true, true, true, true, true, true, false] rfl rfl (any_of HT_.out (by kernel_rfl)) (fun _ _ _ h => h) (Or.inl ⟨by rfl, ?_⟩) ?_ ?_
                          rotate_left
                          · intro w'
                            go_simp
                            with_reducible rfl
                          rotate_left
                          · simp only [Act.put, List.setIfInBounds_toArray, List.set_cons_zero, List.set_cons_succ, i64_w, i32_w]
                            rfl
                          refine pure_ (i := 14) (N := some 60) (v := ?_) (a' := ?_) #[true, true, true, true, true, true, true, true, true, true, true, true, true, true, true] rfl rfl (any_of HT_.out (by kernel_rfl)) (fun _ _ _ h => h) (Or.inl ⟨by rfl, ?_⟩) ?_ ?_
                          rotate_left
                          · intro w'
                            go_simp
                            with_reducible rfl
                          rotate_left
                          · simp only [Act.put, List.setIfInBounds_toArray, List.set_cons_zero, List.set_cons_succ, i64_w, i32_w]
                            rfl
                          refine done_ (done_of HT_.out (by kernel_rfl)) ?_
                          try go_wp2
                          go_meet
                          case rel => exact ⟨_, (((rdOf ByteArray.empty t235 0).toList != ((rd_T72 l0_1 x10_2).f0).toList)), rfl, H', ⟨by have := HJ4.out; have := HK2.out; first | omega⟩, ⟨by exact HO_8.out⟩, ⟨by exact Kd.R_mono HO_9.out (fun _ hk => hk.2)⟩, ⟨by exact Kd.R_mono HO237.out (fun _ hk => hk.2)⟩, ⟨by exact BK225.out⟩, ⟨by exact HB.out⟩⟩
                        · rw [if_neg c31] at H
                          exact absurd H (by simp)
                      · rw [if_neg c30] at H
                        exact absurd H (by simp)
                    · rw [if_neg c29] at H
                      have c29b0 : ((t235.length : Int) == 2) = false := beq_eq_false_iff_ne.mpr c29
                      have c29b1 : ((t235.length : Int) != 2) = true := bne_iff_ne.mpr c29
                      (first | skip)
                      have H' := Aside0.mk H
                      clear H
                      try go_wp2
                      have n0_ := Aside0.mk (Kd.R_drew HO_8.out)
                      have n1_ := Aside0.mk (Kd.R_drew HO_9.out)
                      have n2_ := Aside0.mk (Kd.R_drew HO237.out)
                      have n3_ := Aside0.mk (blk_drew BK225.out)
                      have n4_ := Aside0.mk (below_drew1 HB.out)
                      clear HO_8
                      clear HO_9
                      clear HO237
                      clear BK225
                      clear HB
                      have HO_8 := n0_
                      have HO_9 := n1_
                      have HO237 := n2_
                      have BK225 := n3_
                      have HB := n4_
                      clear n0_ n1_ n2_ n3_ n4_
                      obtain ⟨Ao35, co35, eo35⟩ := Kd.R_slice HO237.out
                      (first | subst eo35)
                      refine start_ (n := 15) (S := fun w' => True) (ds := []) #[false, false, false, false, false, false, false, false, false, false, false, false, false, false, false] (by kernel_rfl) rfl rfl trivial (fun hHeld => ?_); refine with_tabW proofmarkref27_line.tab9 proofmarkref27_line.bits9 (fun HT_ HW_ => ?_)
                      generalize w28.drew = w34 at HO_8 HO_9 HO237 BK225 HB hHeld ⊢
                      refine pure_ (i := 0) (N := some 46) (v := ?_) (a' := ?_) #[true, false, false, false, false, false, false, false, false, false, false, false, false, false, false] rfl rfl (any_of HT_.out (by kernel_rfl)) (fun _ _ _ h => h) (Or.inl ⟨by rfl, ?_⟩) ?_ ?_
                      rotate_left
                      · intro w'
                        go_simp
                        with_reducible rfl
                      rotate_left
                      · simp only [Act.put, List.setIfInBounds_toArray, List.set_cons_zero, List.set_cons_succ, i64_w, i32_w]
                        rfl
                      refine pure_ (i := 1) (N := some 47) (v := ?_) (a' := ?_) #[true, true, false, false, false, false, false, false, false, false, false, false, false, false, false] rfl rfl (any_of HT_.out (by kernel_rfl)) (fun _ _ _ h => h) (Or.inl ⟨by rfl, ?_⟩) ?_ ?_
                      rotate_left
                      · intro w'
                        go_simp
                        with_reducible rfl
                      rotate_left
                      · simp only [Act.put, List.setIfInBounds_toArray, List.set_cons_zero, List.set_cons_succ, i64_w, i32_w]
                        rfl
                      refine pure_ (i := 2) (N := some 48) (v := ?_) (a' := ?_) #[true, true, true, false, false, false, false, false, false, false, false, false, false, false, false] rfl rfl (any_of HT_.out (by kernel_rfl)) (fun _ _ _ h => h) (Or.inl ⟨by rfl, ?_⟩) ?_ ?_
                      rotate_left
                      · intro w'
                        go_simp
                        with_reducible rfl
                      rotate_left
                      · simp only [Act.put, List.setIfInBounds_toArray, List.set_cons_zero, List.set_cons_succ, i64_w, i32_w]
                        rfl
                      refine pure_ (i := 3) (N := some 49) (v := ?_) (a' := ?_) #[true, true, true, true, false, false, false, false, false, false, false, false, false, false, false] rfl rfl (any_of HT_.out (by kernel_rfl)) (fun _ _ _ h => h) (Or.inl ⟨by rfl, ?_⟩) ?_ ?_
                      rotate_left
                      · intro w'
                        go_simp
                        with_reducible rfl
                      rotate_left
                      · simp only [Act.put, List.setIfInBounds_toArray, List.set_cons_zero, List.set_cons_succ, i64_w, i32_w]
                        rfl
                      refine pure_ (i := 4) (N := some 50) (v := undef) (a' := ?_) #[true, true, true, true, true, false, false, false, false, false, false, false, false, false, false] rfl rfl (any_of HT_.out (by kernel_rfl)) (fun _ _ _ h => h) (Or.inr ⟨by rfl, rfl⟩) ?_ ?_
                      rotate_left
                      · simp only [Act.put, List.setIfInBounds_toArray, List.set_cons_zero, List.set_cons_succ, i64_w, i32_w]
                        rfl
                      refine pure_ (i := 5) (N := some 51) (v := undef) (a' := ?_) #[true, true, true, true, true, true, false, false, false, false, false, false, false, false, false] rfl rfl (any_of HT_.out (by kernel_rfl)) (fun _ _ _ h => h) (Or.inr ⟨by rfl, rfl⟩) ?_ ?_
                      rotate_left
                      · simp only [Act.put, List.setIfInBounds_toArray, List.set_cons_zero, List.set_cons_succ, i64_w, i32_w]
                        rfl
                      refine pure_ (i := 6) (N := some 52) (v := undef) (a' := ?_) #[true, true, true, true, true, true, true, false, false, false, false, false, false, false, false] rfl rfl (any_of HT_.out (by kernel_rfl)) (fun _ _ _ h => h) (Or.inr ⟨by rfl, rfl⟩) ?_ ?_
                      rotate_left
                      · simp only [Act.put, List.setIfInBounds_toArray, List.set_cons_zero, List.set_cons_succ, i64_w, i32_w]
                        rfl
                      refine pure_ (i := 7) (N := some 53) (v := undef) (a' := ?_) #[true, true, true, true, true, true, true, true, false, false, false, false, false, false, false] rfl rfl (any_of HT_.out (by kernel_rfl)) (fun _ _ _ h => h) (Or.inr ⟨by rfl, rfl⟩) ?_ ?_
                      rotate_left
                      · simp only [Act.put, List.setIfInBounds_toArray, List.set_cons_zero, List.set_cons_succ, i64_w, i32_w]
                        rfl
                      refine pure_ (i := 8) (N := some 54) (v := undef) (a' := ?_) #[true, true, true, true, true, true, true, true, true, false, false, false, false, false, false] rfl rfl (any_of HT_.out (by kernel_rfl)) (fun _ _ _ h => h) (Or.inr ⟨by rfl, rfl⟩) ?_ ?_
                      rotate_left
                      · simp only [Act.put, List.setIfInBounds_toArray, List.set_cons_zero, List.set_cons_succ, i64_w, i32_w]
                        rfl
                      refine pure_ (i := 9) (N := some 55) (v := undef) (a' := ?_) #[true, true, true, true, true, true, true, true, true, true, false, false, false, false, false] rfl rfl (any_of HT_.out (by kernel_rfl)) (fun _ _ _ h => h) (Or.inr ⟨by rfl, rfl⟩) ?_ ?_
                      rotate_left
                      · simp only [Act.put, List.setIfInBounds_toArray, List.set_cons_zero, List.set_cons_succ, i64_w, i32_w]
                        rfl
                      refine pure_ (i := 10) (N := some 56) (v := undef) (a' := ?_) #[true, true, true, true, true, true, true, true, true, true, true, false, false, false, false] rfl rfl (any_of HT_.out (by kernel_rfl)) (fun _ _ _ h => h) (Or.inr ⟨by rfl, rfl⟩) ?_ ?_
                      rotate_left
                      · simp only [Act.put, List.setIfInBounds_toArray, List.set_cons_zero, List.set_cons_succ, i64_w, i32_w]
                        rfl
                      refine pure_ (i := 11) (N := some 57) (v := undef) (a' := ?_) #[true, true, true, true, true, true, true, true, true, true, true, true, false, false, false] rfl rfl (any_of HT_.out (by kernel_rfl)) (fun _ _ _ h => h) (Or.inr ⟨by rfl, rfl⟩) ?_ ?_
                      rotate_left
                      · simp only [Act.put, List.setIfInBounds_toArray, List.set_cons_zero, List.set_cons_succ, i64_w, i32_w]
                        rfl
                      refine pure_ (i := 12) (N := some 58) (v := undef) (a' := ?_) #[true, true, true, true, true, true, true, true, true, true, true, true, true, false, false] rfl rfl (any_of HT_.out (by kernel_rfl)) (fun _ _ _ h => h) (Or.inr ⟨by rfl, rfl⟩) ?_ ?_
                      rotate_left
                      · simp only [Act.put, List.setIfInBounds_toArray, List.set_cons_zero, List.set_cons_succ, i64_w, i32_w]
                        rfl
                      refine pure_ (i := 13) (N := some 59) (v := undef) (a' := ?_) #[true, true, true, true, true, true, true, true, true, true, true, true, true, true, false] rfl rfl (any_of HT_.out (by kernel_rfl)) (fun _ _ _ h => h) (Or.inr ⟨by rfl, rfl⟩) ?_ ?_
                      rotate_left
                      · simp only [Act.put, List.setIfInBounds_toArray, List.set_cons_zero, List.set_cons_succ, i64_w, i32_w]
                        rfl
                      refine pure_ (i := 14) (N := some 60) (v := ?_) (a' := ?_) #[true, true, true, true, true, true, true, true, true, true, true, true, true, true, true] rfl rfl (any_of HT_.out (by kernel_rfl)) (fun _ _ _ h => h) (Or.inl ⟨by rfl, ?_⟩) ?_ ?_
                      rotate_left
                      · intro w'
                        go_simp
                        with_reducible rfl
                      rotate_left
                      · simp only [Act.put, List.setIfInBounds_toArray, List.set_cons_zero, List.set_cons_succ, i64_w, i32_w]
                        rfl
                      refine done_ (done_of HT_.out (by kernel_rfl)) ?_
                      try go_wp2
                      go_meet
                      case rel => exact ⟨_, (true), rfl, H', ⟨by have := HJ4.out; have := HK2.out; first | omega⟩, ⟨by exact HO_8.out⟩, ⟨by exact Kd.R_mono HO_9.out (fun _ hk => hk.2)⟩, ⟨by exact Kd.R_mono HO237.out (fun _ hk => hk.2)⟩, ⟨by exact BK225.out⟩, ⟨by exact HB.out⟩⟩
                  case rest =>
                    clear HC25
                    try clear c1
                    try clear c2
                    try clear p2
                    try clear q2
                    try clear hx2
                    try clear qi2
                    try clear c3
                    try clear c4
                    try clear p6
                    try clear c7
                    try clear c10
                    try clear c10b0
                    try clear c10b1
                    try clear c11
                    try clear c11b0
                    try clear c11b1
                    try clear c13
                    try clear c13b0
                    try clear c13b1
                    try clear c13b2
                    try clear c19
                    try clear c20
                    try clear c20b0
                    try clear c22
                    try clear c22b0
                    try clear c23
                    try clear c23b0
                    try clear p23
                    try clear q23
                    try clear hx23
                    try clear qi23
                    try clear c29
                    try clear c29b0
                    try clear c29b1
                    try clear c30
                    try clear c30b0
                    try clear c30b1
                    try clear c31
                    try clear c31b0
                    try clear hcz26_0
                    try clear hcz26_1
                    try clear hcz26_2
                    try clear hcz26_3
                    try clear hcz26_4
                    try clear hfz26_0
                    try clear hfz26_1
                    try clear hfz26_2
                    try clear hfz26_3
                    try clear hfz26_4
                    try clear hx232_0
                    try clear hx234_0
                    try clear hx238_0
                    try clear hx239_0
                    try clear hx239_1
                    try clear p2
                    try clear p232
                    try clear p234
                    try clear p238
                    try clear p239
                    try clear p6
                    try clear q2
                    try clear q232
                    try clear q234
                    try clear q238
                    try clear q239
                    obtain ⟨kq, x60_24, rfl, HA, HJ24, HO_8, HO_9, HO_11, BK225, HB⟩ := hcut
                    cases kq with
                    | zero => exact absurd HA.out (by simp [proofmarkref27_line.j2])
                    | succ kj24 =>
                      have H := HA.out
                      clear HA
                      simp only [proofmarkref27_line.j2] at H
                      by_cases c36 : x60_24 = true
                      · subst c36
                        have H1 : (some (([] : List Int), false)) = some (r1, r2) := by rw [if_pos rfl] at H; exact H
                        clear H
                        have H := H1
                        clear H1
                        simp only [Option.some.injEq, Prod.mk.injEq] at H
                        obtain ⟨rfl, rfl⟩ := H
                        go_wp2
                        go_ret2
                        exact ⟨_, by first | rfl, by first | exact Kd.R_nil _ _ _ _ _, by exact HB.out⟩
                      · replace c36 := Bool.eq_false_iff.mpr c36
                        subst c36
                        have H1 : (if 1 < (t235.length : Int) then ((proofmarkref27_number.f kj24 (rdOf ByteArray.empty t235 1) 65535).bind fun bt241 => (if bt241.2 = true then (if x8_2.length < 17592186044416 then (proofmarkref27_line.l0 kj24 (x8_2 ++ [bt241.1]) t229 (wrap64 (x10_2 + 1)) l0_0 l0_1 l0_2 l0_3 l0_4) else (none)) else (some (([] : List Int), false)))) else (none)) = some (r1, r2) := by rw [if_neg (show ¬ (false = true) by decide)] at H; exact H
                        clear H
                        have H := H1
                        clear H1
                        by_cases c37 : 1 < (t235.length : Int)
                        · rw [if_pos c37] at H
                          have c37b0 : decide (1 < (t235.length : Int)) = true := decide_eq_true c37
                          have c37b1 : decide (1 < t235.length) = true := decide_eq_true (by omega)
                          clear c37
                          replace H := Option.bind_eq_some_iff.mp H
                          obtain ⟨⟨t241, t242⟩, A380, H⟩ := H
                          replace H : (if t242 = true then (if x8_2.length < 17592186044416 then (proofmarkref27_line.l0 kj24 (x8_2 ++ [t241]) t229 (wrap64 (x10_2 + 1)) l0_0 l0_1 l0_2 l0_3 l0_4) else (none)) else (some (([] : List Int), false))) = some (r1, r2) := H
                          have A38 := Aside0.mk A380
                          clear A380
                          by_cases c39 : t242 = true
                          · subst c39
                            have H1 : (if x8_2.length < 17592186044416 then (proofmarkref27_line.l0 kj24 (x8_2 ++ [t241]) t229 (wrap64 (x10_2 + 1)) l0_0 l0_1 l0_2 l0_3 l0_4) else (none)) = some (r1, r2) := by rw [if_pos rfl] at H; exact H
                            clear H
                            have H := H1
                            clear H1
                            by_cases c40 : x8_2.length < 17592186044416
                            · rw [if_pos c40] at H
                              have LMc40 := Aside0.mk c40
                              clear c40
                              obtain ⟨y243, hy243⟩ : ∃ y_ : List Int, y_ = (x8_2 ++ [t241]) := ⟨_, rfl⟩
                              replace H : (proofmarkref27_line.l0 kj24 y243 t229 (wrap64 (x10_2 + 1)) l0_0 l0_1 l0_2 l0_3 l0_4) = some (r1, r2) := by first | (rw [hy243]; with_reducible exact H)
                              have Ny243 := Aside0.mk hy243
                              clear hy243
                              have H' := Aside0.mk H
                              clear H
                              obtain ⟨Ao41, co41, eo41⟩ := Kd.R_slice HO_11.out
                              subst eo41
                              have p240 : 0 ≤ (1 : Int) := (by omega)
                              have q240 : 1 < (t235.length : Int) := of_decide_eq_true (by first | (with_reducible assumption))
                              obtain ⟨ad240, e240, hx240_0⟩ := Kd.at_string (Kd.R_reads' HO_11.out).2.2 1 p240 q240
                              cases e240
                              (try simp only [show (1 : Int).toNat = 1 from rfl, Nat.reduceMul, Nat.reduceEqDiff, Go.Addr.add, ↓reduceIte] at hx240_0)
                              have qi240 : (1 < t235.length) = True := eq_true (by omega)
                              (try rw [show ((1 : Int)).toNat = 1 from rfl] at hx240_0)
                              replace p240 := eq_true p240
                              replace q240 := eq_true q240
                              go_wp2_with (first | ((with_reducible refine gate_callee (f := 72) rfl ?_); refine goesL_ (some 65) rfl rfl Tryz.func72 (by kernel_rfl) rfl #[.string (rdOf ByteArray.empty t235 1), .int .i64 65535] rfl (by (try simp only [List.map_toArray, List.map_cons, List.map_nil]); first | rfl) ?_; (with_reducible refine (proofmarkref27_number.calls kj24 (rdOf ByteArray.empty t235 1) 65535 t241 true _ A38.out).mono ?_); rintro e w' ⟨rfl, ⟨nd, rfl⟩⟩; refine ⟨_, rfl, ?_⟩) | ((with_reducible refine gate_builtin (b := .append) (xs := #[.tmp 70, .tmp 72]) rfl ?_); at_builtin; refine Kd.R_append (Kd.int .i64) (w0 := w) w.heap.size rfl (.tmp 70) (.tmp 72) 37 3 (.int .i64 0) 8 rfl Tryz.underlying37 info3 rfl (by decide) (by omega) u8 x8_2 t241 [.int .i64 t241] (fun _ => True) (fun _ => False) rfl rfl ?aP (fun _ hk => hk.elim) ?aF ?aO ?aB ?aS ?aL ?_; (case aP => exact rfl); (case aB => exact (by repeat (first | (with_reducible first | exact HB.out | apply pw_below_drewN)))); (case aF => exact (fun _ _ => trivial)); (case aO => exact (by (with_reducible repeat (first | apply Kd.R_drewN)); exact HO_8.out)); (case aS => exact (below_size (by repeat (first | (with_reducible first | exact HB.out | apply pw_below_drewN))))); (case aL => have := LMc40.out; omega); intro v244 w42 ho hb hg hat; rw [← Ny243.out] at ho; have n0_ := Aside0.mk (Kd.R_over' (by (with_reducible repeat (first | apply Kd.R_drewN)); exact HO_9.out) (Kd.R_typed (by (with_reducible repeat (first | apply Kd.R_drewN)); exact HO_8.out)) (by decide) hg); have n1_ := Aside0.mk (Kd.R_over' (by (with_reducible repeat (first | apply Kd.R_drewN)); exact HO_11.out) (Kd.R_typed (by (with_reducible repeat (first | apply Kd.R_drewN)); exact HO_8.out)) (by decide) hg); have n2_ := Aside0.mk (blk_grown (g := gb225) (o := .cells #[.slice A0_0 l0_0.length c0_0, .slice A0_1 l0_1.length c0_1, .slice A0_2 l0_2.length c0_2, .slice A0_3 l0_3.length c0_3, .slice A0_4 l0_4.length c0_4] 27 (0, 0)) (by (with_reducible repeat (first | refine blk_drewN ?_ _)); exact BK225.out) hg (Kd.R_ne HO_8.out BK225.out (by decide))); have n3_ := Aside0.mk (hb); have n4_ := Aside0.mk (ho); clear HO_9; clear HO_11; clear BK225; clear HB; clear HO_8; have HO_9 := n0_; have HO_11 := n1_; have BK225 := n2_; have HB := n3_; have HO245 := n4_; clear n0_ n1_ n2_ n3_ n4_; clear ho hb hg hat))
                              go_roundg kj24
                              case measure => have := HJ4.out; have := HK2.out; have := HJ24.out; omega
                              case rel => exact ⟨(y243), (wrap64 (x10_2 + 1)), (by first | (simp [*]; done)), H', ⟨by have := HJ4.out; have := HK2.out; have := HJ24.out; omega⟩, ⟨by exact HO245.out⟩, ⟨by exact Kd.R_mono HO_9.out (fun _ hk => trivial)⟩, ⟨by exact BK225.out⟩, ⟨by exact HB.out⟩⟩
                            · rw [if_neg c40] at H
                              exact absurd H (by simp)
                          · replace c39 := Bool.eq_false_iff.mpr c39
                            subst c39
                            have H1 : (some (([] : List Int), false)) = some (r1, r2) := by rw [if_neg (show ¬ (false = true) by decide)] at H; exact H
                            clear H
                            have H := H1
                            clear H1
                            simp only [Option.some.injEq, Prod.mk.injEq] at H
                            obtain ⟨rfl, rfl⟩ := H
                            obtain ⟨Ao43, co43, eo43⟩ := Kd.R_slice HO_11.out
                            subst eo43
                            have p240 : 0 ≤ (1 : Int) := (by omega)
                            have q240 : 1 < (t235.length : Int) := of_decide_eq_true (by first | (with_reducible assumption))
                            obtain ⟨ad240, e240, hx240_0⟩ := Kd.at_string (Kd.R_reads' HO_11.out).2.2 1 p240 q240
                            cases e240
                            (try simp only [show (1 : Int).toNat = 1 from rfl, Nat.reduceMul, Nat.reduceEqDiff, Go.Addr.add, ↓reduceIte] at hx240_0)
                            have qi240 : (1 < t235.length) = True := eq_true (by omega)
                            (try rw [show ((1 : Int)).toNat = 1 from rfl] at hx240_0)
                            replace p240 := eq_true p240
                            replace q240 := eq_true q240
                            go_wp2_with (first | ((with_reducible refine gate_callee (f := 72) rfl ?_); refine goesL_ (some 65) rfl rfl Tryz.func72 (by kernel_rfl) rfl #[.string (rdOf ByteArray.empty t235 1), .int .i64 65535] rfl (by (try simp only [List.map_toArray, List.map_cons, List.map_nil]); first | rfl) ?_; (with_reducible refine (proofmarkref27_number.calls kj24 (rdOf ByteArray.empty t235 1) 65535 t241 false _ A38.out).mono ?_); rintro e w' ⟨rfl, ⟨nd, rfl⟩⟩; refine ⟨_, rfl, ?_⟩))
                            go_ret2
                            exact ⟨_, by first | rfl, by first | exact Kd.R_nil _ _ _ _ _, by repeat (first | (with_reducible first | exact HB.out | apply pw_below_drewN))⟩
                        · rw [if_neg c37] at H
                          exact absurd H (by simp)
                · rw [if_neg c23] at H
                  exact absurd H (by simp)
              · rw [if_neg c22] at H
                exact absurd H (by simp)
            · rw [if_neg c20] at H
              have c20b0 : decide (x10_2 < (l0_1.length : Int)) = false := decide_eq_false c20
              clear c20
              simp only [Option.some.injEq, Prod.mk.injEq] at H
              obtain ⟨rfl, rfl⟩ := H
              have hcz44_0 : wr.cell? ⟨gb225, 0, none⟩ = some (.slice A0_0 l0_0.length c0_0) := (blk_cell BK225.out 0).trans rfl
              have hcz44_1 : wr.cell? ⟨gb225, 1, none⟩ = some (.slice A0_1 l0_1.length c0_1) := (blk_cell BK225.out 1).trans rfl
              have hcz44_2 : wr.cell? ⟨gb225, 2, none⟩ = some (.slice A0_2 l0_2.length c0_2) := (blk_cell BK225.out 2).trans rfl
              have hcz44_3 : wr.cell? ⟨gb225, 3, none⟩ = some (.slice A0_3 l0_3.length c0_3) := (blk_cell BK225.out 3).trans rfl
              have hcz44_4 : wr.cell? ⟨gb225, 4, none⟩ = some (.slice A0_4 l0_4.length c0_4) := (blk_cell BK225.out 4).trans rfl
              have hfz44_0 := blk_frozen BK225.out 0
              have hfz44_1 := blk_frozen BK225.out 1
              have hfz44_2 := blk_frozen BK225.out 2
              have hfz44_3 := blk_frozen BK225.out 3
              have hfz44_4 := blk_frozen BK225.out 4
              go_wp2
              go_ret2
              exact ⟨_, by first | rfl, by exact HO_8.out, by exact HB.out⟩

end Go.Proofs.YtmfekngjhiofaaaGreatDoor.Q
