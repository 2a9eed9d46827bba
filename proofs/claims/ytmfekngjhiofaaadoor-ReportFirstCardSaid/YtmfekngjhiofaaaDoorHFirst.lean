-- Written by the session's own program (wip/tools/prune.py, wip/report/gen_first.py) for this claim.
import Derived.Test.YtmfekngjhiofaaaDoorQx0
import Derived.Test.YtmfekngjhiofaaaDoorHTidy
import Derived.Test.YtmfekngjhiofaaaDoorHBehind
import Derived.Test.YtmfekngjhiofaaaDoorQx13
import Derived.Test.YtmfekngjhiofaaaDoorHVerdict
import Derived.Test.YtmfekngjhiofaaaDoorHHead
import Derived.Test.YtmfekngjhiofaaaDoorHTab
namespace Go.Proofs.YtmfekngjhiofaaaDoor.Q
open Go.RowKit Go.Proofs.YtmfekngjhiofaaaDoorW.PrintWords Go.Proofs.YtmfekngjhiofaaaDoorW.PrintLast Go.Proofs.YtmfekngjhiofaaaDoorW.PrintMore
attribute [local go_sem] max2_int min2_int max_two min_two max_three min_three max_four min_four   -- for this text's walks alone
set_option linter.unusedVariables false
set_option linter.unusedSimpArgs false
def proofmarklaw30_ReportFirst.T4 : Bool × List (List Nat × List Nat) := (true, [([], []), ([0], [0]), ([], []), ([2], [2]), ([], []), ([4], [4]), ([5], [5]), ([6, 6], [6]), ([1, 3, 7], [1, 3, 7]), ([], []), ([9, 8, 0, 1, 2, 3, 4, 5, 6, 7, 8, 9], [8, 9])])
def proofmarklaw30_ReportFirst.B4 : List Nat := [0, 1, 0, 4, 0, 16, 48, 112, 255, 0, 1023]
theorem proofmarklaw30_ReportFirst.tab4 : rtab .any (opsOf Tryd.f5 4) = proofmarklaw30_ReportFirst.T4 := by kernel_rfl
theorem proofmarklaw30_ReportFirst.bits4 : waitsOk proofmarklaw30_ReportFirst.T4.2 proofmarklaw30_ReportFirst.B4 = true := by kernel_rfl
def proofmarklaw30_ReportFirst.T11 : Bool × List (List Nat × List Nat) := (true, [([], []), ([0], [0]), ([1], [1]), ([1], [1]), ([3, 1], [1, 3]), ([1], [1]), ([5, 1], [1, 5]), ([4, 6, 1], [1, 4, 6]), ([2, 7, 1], [1, 2, 7]), ([1], [1]), ([1], [1]), ([10, 1], [1, 10]), ([1], [1]), ([12, 1], [1, 12]), ([11, 13, 1], [1, 11, 13]), ([9, 14, 1], [1, 9, 14]), ([8, 15, 1], [1, 8, 15]), ([1, 16], [1, 16]), ([17, 1, 0, 1, 2, 3, 4, 5, 6, 7, 8, 9, 10, 11, 12, 13, 14, 15, 16, 17], [17])])
def proofmarklaw30_ReportFirst.B11 : List Nat := [0, 1, 3, 3, 11, 3, 35, 123, 255, 3, 3, 1027, 3, 4099, 15363, 32259, 65535, 131071, 262143]
theorem proofmarklaw30_ReportFirst.tab11 : rtab .any (opsOf Tryd.f5 11) = proofmarklaw30_ReportFirst.T11 := by kernel_rfl
theorem proofmarklaw30_ReportFirst.bits11 : waitsOk proofmarklaw30_ReportFirst.T11.2 proofmarklaw30_ReportFirst.B11 = true := by kernel_rfl
set_option maxHeartbeats 8000000 in
set_option maxRecDepth 100000 in
theorem proofmarklaw30_ReportFirst.walk (k : Nat) (A0_0 : Option Addr) (c0_0 : Nat) (l0_0 : List (S96)) (A0_1 : Option Addr) (c0_1 : Nat) (l0_1 : List (S111)) (A0_2 : Option Addr) (c0_2 : Nat) (l0_2 : List (S94)) (A0_3 : Option Addr) (c0_3 : Nat) (l0_3 : List (S73)) (A0_4 : Option Addr) (c0_4 : Nat) (l0_4 : List (S111)) (a1_0 : Int) (a1_1 : Int) (A1_2 : Option Addr) (c1_2 : Nat) (l1_2 : List (List Int)) (A1_3 : Option Addr) (c1_3 : Nat) (l1_3 : List (List Int)) (a2 : Int) (t217 : List S96) (t220 : List S111) (t223 : List S94) (t226 : List S73) (t229 : List S111) (t233 t234 : Int) (t235 t238 : List (List Int)) (t246 t247 t248 t250 : ByteArray) (t249 t251 : Bool) (ji16 ji19 : Int) (w : World) (hG : Tab w) (hr0_0 : Kd.C k96 w A0_0 l0_0.length l0_0) (hc0_0 : l0_0.length ≤ c0_0) (hr0_1 : Kd.C k111 w A0_1 l0_1.length l0_1) (hc0_1 : l0_1.length ≤ c0_1) (hr0_2 : Kd.C k94 w A0_2 l0_2.length l0_2) (hc0_2 : l0_2.length ≤ c0_2) (hr0_3 : Kd.C k73 w A0_3 l0_3.length l0_3) (hc0_3 : l0_3.length ≤ c0_3) (hr0_4 : Kd.C k111 w A0_4 l0_4.length l0_4) (hc0_4 : l0_4.length ≤ c0_4) (hr1_2 : Kd.C (Kd.slice 3 (Kd.int .i64)) w A1_2 l1_2.length l1_2) (hc1_2 : l1_2.length ≤ c1_2) (hr1_3 : Kd.C (Kd.slice 3 (Kd.int .i64)) w A1_3 l1_3.length l1_3) (hc1_3 : l1_3.length ≤ c1_3) (h4 : proofmarklaw30_head.f k = some true) (h5 : proofmarklaw30_tidy.f k l0_0 l0_1 l0_2 l0_3 l0_4 = some (t217, t220, t223, t226, t229)) (h6 : proofmarkref30_Fit.f k a1_0 a1_1 l1_2 l1_3 = some (t233, t234, t235, t238)) (hl : t238.length ≤ 1000000) (h9 : report_Verdict.f k t217 t220 t223 t226 t229 a2 t233 t234 t235 t238 = some t246) (h10 : report_Verdict.f k t217 t220 t223 t226 t229 a2 t233 t234 ([] : List (List Int)) (List.replicate ((t238.length : Int) : Int).toNat []) = some t247) (h11 : proofmarklaw30_behind.f k t246 = some (t248, t249)) (h12 : proofmarklaw30_behind.f k t247 = some (t250, t251)) (hji16 : wrap64 ((t246.size : Int) - (t248.size : Int)) = ji16) (hji19 : wrap64 ((t247.size : Int) - (t250.size : Int)) = ji19) (hC : (t249 = true ∧ t251 = true ∧ (0 ≤ ji16 ∧ ji16 ≤ (t246.size : Int)) ∧ (0 ≤ ji19 ∧ ji19 ≤ (t247.size : Int)) ∧ ((t246.extract 0 (ji16 : Int).toNat).toList == (t247.extract 0 (ji19 : Int).toNat).toList) = true) ∨ (t249 = false ∧ t251 = false ∧ t246 = ⟨#[]⟩ ∧ t247 = ⟨#[]⟩ ∧ (a2 < 0 ∨ (t226.length : Int) ≤ a2))) :
    Calls Tryd.prog 5 #[.agg #[.slice A0_0 l0_0.length c0_0, .slice A0_1 l0_1.length c0_1, .slice A0_2 l0_2.length c0_2, .slice A0_3 l0_3.length c0_3, .slice A0_4 l0_4.length c0_4], .agg #[.int .i64 a1_0, .int .i64 a1_1, .slice A1_2 l1_2.length c1_2, .slice A1_3 l1_3.length c1_3], .int .i64 a2] w fun e w' => e = .returned (.bool true) ∧ Below w.heap.size w w' := by
  have HG := Aside0.mk hG
  clear hG
  have hu27 := Tryd.underlying27
  have hu30 := Tryd.underlying30
  have HR0_0 := Aside0.mk hr0_0
  have HC0_0 := Aside0.mk hc0_0
  clear hr0_0 hc0_0
  have HR0_1 := Aside0.mk hr0_1
  have HC0_1 := Aside0.mk hc0_1
  clear hr0_1 hc0_1
  have HR0_2 := Aside0.mk hr0_2
  have HC0_2 := Aside0.mk hc0_2
  clear hr0_2 hc0_2
  have HR0_3 := Aside0.mk hr0_3
  have HC0_3 := Aside0.mk hc0_3
  clear hr0_3 hc0_3
  have HR0_4 := Aside0.mk hr0_4
  have HC0_4 := Aside0.mk hc0_4
  clear hr0_4 hc0_4
  have HR1_2 := Aside0.mk hr1_2
  have HC1_2 := Aside0.mk hc1_2
  clear hr1_2 hc1_2
  have HR1_3 := Aside0.mk hr1_3
  have HC1_3 := Aside0.mk hc1_3
  clear hr1_3 hc1_3
  have HB := Aside0.mk (Below.refl w.heap.size w)
  have HCC := Aside0.mk hC
  clear hC
  have A4 := Aside0.mk h4
  clear h4
  have A5 := Aside0.mk h5
  clear h5
  have A6 := Aside0.mk h6
  clear h6
  have A9 := Aside0.mk h9
  clear h9
  obtain ⟨y242, hy242⟩ : ∃ y_ : List (List Int), y_ = (List.replicate ((t238.length : Int) : Int).toNat []) := ⟨_, rfl⟩
  rw [← hy242] at h10
  have Ny242 := Aside0.mk hy242
  clear hy242
  have A10 := Aside0.mk h10
  clear h10
  have A11 := Aside0.mk h11
  clear h11
  have A12 := Aside0.mk h12
  clear h12
  have c7 : 0 ≤ (t238.length : Int) := by omega
  have c7b0 := eq_true c7
  have c7b1 : decide (0 ≤ (t238.length : Int)) = true := decide_eq_true c7
  clear c7
  have c8 : ((t238.length : Int) : Int).toNat ≤ 11728124029610 := by omega
  clear hl
  have c8b0 := eq_true c8
  have c8b1 : decide (((t238.length : Int) : Int).toNat ≤ 11728124029610) = true := decide_eq_true c8
  clear c8
  go_enter Tryd.func5, Tryd.ntmps5
  try go_wp2_with (first | ((with_reducible refine gate_dst (N := 3) rfl ?_); (try (refine gate_guard (by rfl) ?_; dsimp only)); refine box_event ?hg (N := 3) ?hd (cs := #[.slice A0_0 l0_0.length c0_0, .slice A0_1 l0_1.length c0_1, .slice A0_2 l0_2.length c0_2, .slice A0_3 l0_3.length c0_3, .slice A0_4 l0_4.length c0_4]) (t := 27) ?hr ?_; (case hd => rfl); (case hg => rfl); (case hr => first | (go_simp; done) | (go_simp; rfl)); intro gb214 hg w22 hbox hb; have n0_ := Aside0.mk (below_step (by repeat (first | (with_reducible first | exact HB.out | apply below_alloc | apply pw_below_drewN | apply below_drew1) | exact HB.out)) hb); have n1_ := Aside0.mk (hbox); have n2_ := Aside0.mk ((by rw [hg]; exact (below_size (by repeat (first | (with_reducible first | exact HB.out | apply below_alloc | apply pw_below_drewN | apply below_drew1) | exact HB.out))) : w.heap.size ≤ gb214)); have n3_ := Aside0.mk ((by rw [hg]; exact (below_size (by repeat (first | (with_reducible first | exact HB.out | apply below_alloc | apply pw_below_drewN | apply below_drew1) | exact HB.out))) : w.heap.size ≤ gb214)); clear HB; have HB := n0_; have BK214 := n1_; have GW214 := n2_; have GE214 := n3_; clear n0_ n1_ n2_ n3_; clear hb hbox hg) | ((with_reducible refine gate_dst (N := 4) rfl ?_); (try (refine gate_guard (by rfl) ?_; dsimp only)); refine box_event ?hg (N := 4) ?hd (cs := #[.int .i64 a1_0, .int .i64 a1_1, .slice A1_2 l1_2.length c1_2, .slice A1_3 l1_3.length c1_3]) (t := 30) ?hr ?_; (case hd => rfl); (case hg => rfl); (case hr => first | (go_simp; done) | (go_simp; rfl)); intro gb215 hg w23 hbox hb; have n0_ := Aside0.mk (blk_below (g := gb214) (o := .cells #[.slice A0_0 l0_0.length c0_0, .slice A0_1 l0_1.length c0_1, .slice A0_2 l0_2.length c0_2, .slice A0_3 l0_3.length c0_3, .slice A0_4 l0_4.length c0_4] 27 (0, 0)) (by (with_reducible repeat (first | refine blk_drewN ?_ _ | refine blk_drew ?_ | refine blk_alloc ?_ _)); exact BK214.out) hb); have n1_ := Aside0.mk (below_step (by repeat (first | (with_reducible first | exact HB.out | apply below_alloc | apply pw_below_drewN | apply below_drew1 | refine below_set ?_ GE214.out) | exact HB.out)) hb); have n2_ := Aside0.mk (hbox); have n3_ := Aside0.mk ((by rw [hg]; exact (below_size (by repeat (first | (with_reducible first | exact HB.out | apply below_alloc | apply pw_below_drewN | apply below_drew1 | refine below_set ?_ GE214.out) | exact HB.out))) : w.heap.size ≤ gb215)); have n4_ := Aside0.mk ((by rw [hg]; exact (below_size (by repeat (first | (with_reducible first | exact HB.out | apply below_alloc | apply pw_below_drewN | apply below_drew1 | refine below_set ?_ GE214.out) | exact HB.out))) : w.heap.size ≤ gb215)); have n5_ := Aside0.mk ((by rw [hg]; exact Nat.ne_of_lt (blk_lt (g := gb214) (o := .cells #[.slice A0_0 l0_0.length c0_0, .slice A0_1 l0_1.length c0_1, .slice A0_2 l0_2.length c0_2, .slice A0_3 l0_3.length c0_3, .slice A0_4 l0_4.length c0_4] 27 (0, 0)) (by (with_reducible repeat (first | refine blk_drewN ?_ _ | refine blk_drew ?_ | refine blk_alloc ?_ _)); exact BK214.out)) : gb214 ≠ gb215)); have n6_ := Aside0.mk ((by rw [hg]; exact Nat.ne_of_gt (blk_lt (g := gb214) (o := .cells #[.slice A0_0 l0_0.length c0_0, .slice A0_1 l0_1.length c0_1, .slice A0_2 l0_2.length c0_2, .slice A0_3 l0_3.length c0_3, .slice A0_4 l0_4.length c0_4] 27 (0, 0)) (by (with_reducible repeat (first | refine blk_drewN ?_ _ | refine blk_drew ?_ | refine blk_alloc ?_ _)); exact BK214.out)) : gb215 ≠ gb214)); clear BK214; clear HB; have BK214 := n0_; have HB := n1_; have BK215 := n2_; have GW215 := n3_; have GE215 := n4_; have NB214_215 := n5_; have NB215_214 := n6_; clear n0_ n1_ n2_ n3_ n4_ n5_ n6_; clear hb hbox hg) | ((with_reducible refine gate_callee (f := 13) rfl ?_); refine goesL_ (some 17) rfl rfl Tryd.func13 (by kernel_rfl) rfl #[] rfl (by (try simp only [List.map_toArray, List.map_cons, List.map_nil]); first | done | rfl | (simp only [List.length_drop, List.length_take]; rfl)) ?_; (with_reducible refine (proofmarklaw30_head.calls k true _ (by first | exact HG.out | (refine tab_below HG.out ?_; repeat (first | (with_reducible first | exact HB.out | apply below_alloc | apply pw_below_drewN | apply below_drew1 | refine below_set ?_ GE214.out | refine below_set ?_ GE215.out | refine below_set ?_ GE232.out | refine below_set ?_ GE241.out | refine below_set ?_ GE245.out) | exact HB.out)) | (refine tab_drawn HG.out ?_; repeat (first | exact Drawn0.refl _ | apply drawn_drewN | apply drawn_drew))) A4.out).mono ?_); rintro e w24 ⟨rfl, hb⟩; refine ⟨_, rfl, ?_⟩; have n0_ := Aside0.mk (blk_below (g := gb214) (o := .cells #[.slice A0_0 l0_0.length c0_0, .slice A0_1 l0_1.length c0_1, .slice A0_2 l0_2.length c0_2, .slice A0_3 l0_3.length c0_3, .slice A0_4 l0_4.length c0_4] 27 (0, 0)) (by (with_reducible repeat (first | refine blk_drewN ?_ _ | refine blk_drew ?_ | refine blk_alloc ?_ _)); exact BK214.out) hb); have n1_ := Aside0.mk (blk_below (g := gb215) (o := .cells #[.int .i64 a1_0, .int .i64 a1_1, .slice A1_2 l1_2.length c1_2, .slice A1_3 l1_3.length c1_3] 30 (0, 0)) (by (with_reducible repeat (first | refine blk_drewN ?_ _ | refine blk_drew ?_ | refine blk_alloc ?_ _)); exact BK215.out) hb); have n2_ := Aside0.mk (below_step (by repeat (first | (with_reducible first | exact HB.out | apply below_alloc | apply pw_below_drewN | apply below_drew1 | refine below_set ?_ GE214.out | refine below_set ?_ GE215.out) | exact HB.out)) hb); clear BK214; clear BK215; clear HB; have BK214 := n0_; have BK215 := n1_; have HB := n2_; clear n0_ n1_ n2_; (try clear hb); (try clear hb2); (try clear hk); (try clear hi); have hnb25 := NB214_215.out; have hnc25 := NB215_214.out; have hcz26_0 : w24.cell? ⟨gb214, 0, none⟩ = some (.slice A0_0 l0_0.length c0_0) := (blk_cell BK214.out 0).trans rfl; have hcz26_1 : w24.cell? ⟨gb214, 1, none⟩ = some (.slice A0_1 l0_1.length c0_1) := (blk_cell BK214.out 1).trans rfl; have hcz26_2 : w24.cell? ⟨gb214, 2, none⟩ = some (.slice A0_2 l0_2.length c0_2) := (blk_cell BK214.out 2).trans rfl; have hcz26_3 : w24.cell? ⟨gb214, 3, none⟩ = some (.slice A0_3 l0_3.length c0_3) := (blk_cell BK214.out 3).trans rfl; have hcz26_4 : w24.cell? ⟨gb214, 4, none⟩ = some (.slice A0_4 l0_4.length c0_4) := (blk_cell BK214.out 4).trans rfl; have hfz26_0 := blk_frozen BK214.out 0; have hfz26_1 := blk_frozen BK214.out 1; have hfz26_2 := blk_frozen BK214.out 2; have hfz26_3 := blk_frozen BK214.out 3; have hfz26_4 := blk_frozen BK214.out 4) | ((with_reducible refine gate_callee (f := 20) rfl ?_); refine goesL_ (some 19) rfl rfl Tryd.func20 (by kernel_rfl) rfl #[.agg #[.slice A0_0 l0_0.length c0_0, .slice A0_1 l0_1.length c0_1, .slice A0_2 l0_2.length c0_2, .slice A0_3 l0_3.length c0_3, .slice A0_4 l0_4.length c0_4]] rfl (by (try simp only [List.map_toArray, List.map_cons, List.map_nil]); first | done | rfl | (simp only [List.length_drop, List.length_take]; rfl)) ?_; (with_reducible refine (proofmarklaw30_tidy.calls k _ _ l0_0 _ _ l0_1 _ _ l0_2 _ _ l0_3 _ _ l0_4 t217 t220 t223 t226 t229 _ ?side1 ?side2 ?side3 ?side4 ?side5 ?side6 ?side7 ?side8 ?side9 ?side10 A5.out).mono ?_); (case side1 => repeat (first | exact (Kd.C_below HR0_0.out HB.out) | (with_reducible refine Kd.C_alloc ?_ _) | (with_reducible refine Kd.C_drewN ?_ _) | (with_reducible refine Kd.C_drew ?_))); (case side2 => exact HC0_0.out); (case side3 => repeat (first | exact (Kd.C_below HR0_1.out HB.out) | (with_reducible refine Kd.C_alloc ?_ _) | (with_reducible refine Kd.C_drewN ?_ _) | (with_reducible refine Kd.C_drew ?_))); (case side4 => exact HC0_1.out); (case side5 => repeat (first | exact (Kd.C_below HR0_2.out HB.out) | (with_reducible refine Kd.C_alloc ?_ _) | (with_reducible refine Kd.C_drewN ?_ _) | (with_reducible refine Kd.C_drew ?_))); (case side6 => exact HC0_2.out); (case side7 => repeat (first | exact (Kd.C_below HR0_3.out HB.out) | (with_reducible refine Kd.C_alloc ?_ _) | (with_reducible refine Kd.C_drewN ?_ _) | (with_reducible refine Kd.C_drew ?_))); (case side8 => exact HC0_3.out); (case side9 => repeat (first | exact (Kd.C_below HR0_4.out HB.out) | (with_reducible refine Kd.C_alloc ?_ _) | (with_reducible refine Kd.C_drewN ?_ _) | (with_reducible refine Kd.C_drew ?_))); (case side10 => exact HC0_4.out); rintro e w27 ⟨v218, v221, v224, v227, v230, rfl, ho0, ho1, ho2, ho3, ho4, hb⟩; refine ⟨_, rfl, ?_⟩; have n0_ := Aside0.mk (Kd.R_lower ho0 (below_size (by repeat (first | (with_reducible first | exact HB.out | apply below_alloc | apply pw_below_drewN | apply below_drew1 | refine below_set ?_ GE214.out | refine below_set ?_ GE215.out) | exact HB.out)))); have n1_ := Aside0.mk (Kd.R_lower ho1 (below_size (by repeat (first | (with_reducible first | exact HB.out | apply below_alloc | apply pw_below_drewN | apply below_drew1 | refine below_set ?_ GE214.out | refine below_set ?_ GE215.out) | exact HB.out)))); have n2_ := Aside0.mk (Kd.R_lower ho2 (below_size (by repeat (first | (with_reducible first | exact HB.out | apply below_alloc | apply pw_below_drewN | apply below_drew1 | refine below_set ?_ GE214.out | refine below_set ?_ GE215.out) | exact HB.out)))); have n3_ := Aside0.mk (Kd.R_lower ho3 (below_size (by repeat (first | (with_reducible first | exact HB.out | apply below_alloc | apply pw_below_drewN | apply below_drew1 | refine below_set ?_ GE214.out | refine below_set ?_ GE215.out) | exact HB.out)))); have n4_ := Aside0.mk (Kd.R_lower ho4 (below_size (by repeat (first | (with_reducible first | exact HB.out | apply below_alloc | apply pw_below_drewN | apply below_drew1 | refine below_set ?_ GE214.out | refine below_set ?_ GE215.out) | exact HB.out)))); have n5_ := Aside0.mk (blk_below (g := gb214) (o := .cells #[.slice A0_0 l0_0.length c0_0, .slice A0_1 l0_1.length c0_1, .slice A0_2 l0_2.length c0_2, .slice A0_3 l0_3.length c0_3, .slice A0_4 l0_4.length c0_4] 27 (0, 0)) (by (with_reducible repeat (first | refine blk_drewN ?_ _ | refine blk_drew ?_ | refine blk_alloc ?_ _)); exact BK214.out) hb); have n6_ := Aside0.mk (blk_below (g := gb215) (o := .cells #[.int .i64 a1_0, .int .i64 a1_1, .slice A1_2 l1_2.length c1_2, .slice A1_3 l1_3.length c1_3] 30 (0, 0)) (by (with_reducible repeat (first | refine blk_drewN ?_ _ | refine blk_drew ?_ | refine blk_alloc ?_ _)); exact BK215.out) hb); have n7_ := Aside0.mk (below_step (by repeat (first | (with_reducible first | exact HB.out | apply below_alloc | apply pw_below_drewN | apply below_drew1 | refine below_set ?_ GE214.out | refine below_set ?_ GE215.out) | exact HB.out)) hb); clear BK214; clear BK215; clear HB; have HO219 := n0_; have HO222 := n1_; have HO225 := n2_; have HO228 := n3_; have HO231 := n4_; have BK214 := n5_; have BK215 := n6_; have HB := n7_; clear n0_ n1_ n2_ n3_ n4_ n5_ n6_ n7_; (try clear hb); (try clear hb2); (try clear hk); (try clear hi); (try clear ho0); (try clear ho1); (try clear ho2); (try clear ho3); (try clear ho4)) | ((with_reducible refine gate_dst (N := 8) rfl ?_); (try (refine gate_guard (by rfl) ?_; dsimp only)); refine box_event ?hg (N := 8) ?hd (cs := #[.slice none 0 0, .slice none 0 0, .slice none 0 0, .slice none 0 0, .slice none 0 0]) (t := 27) ?hr ?_; (case hd => rfl); (case hg => rfl); (case hr => first | (go_simp; done) | (go_simp; rfl)); intro gb232 hg w28 hbox hb; have n0_ := Aside0.mk (Kd.R_below (by (with_reducible repeat (first | apply Kd.R_alloc | apply Kd.R_drewN | apply Kd.R_drew)); exact HO219.out) hb); have n1_ := Aside0.mk (Kd.R_below (by (with_reducible repeat (first | apply Kd.R_alloc | apply Kd.R_drewN | apply Kd.R_drew)); exact HO222.out) hb); have n2_ := Aside0.mk (Kd.R_below (by (with_reducible repeat (first | apply Kd.R_alloc | apply Kd.R_drewN | apply Kd.R_drew)); exact HO225.out) hb); have n3_ := Aside0.mk (Kd.R_below (by (with_reducible repeat (first | apply Kd.R_alloc | apply Kd.R_drewN | apply Kd.R_drew)); exact HO228.out) hb); have n4_ := Aside0.mk (Kd.R_below (by (with_reducible repeat (first | apply Kd.R_alloc | apply Kd.R_drewN | apply Kd.R_drew)); exact HO231.out) hb); have n5_ := Aside0.mk (blk_below (g := gb214) (o := .cells #[.slice A0_0 l0_0.length c0_0, .slice A0_1 l0_1.length c0_1, .slice A0_2 l0_2.length c0_2, .slice A0_3 l0_3.length c0_3, .slice A0_4 l0_4.length c0_4] 27 (0, 0)) (by (with_reducible repeat (first | refine blk_drewN ?_ _ | refine blk_drew ?_ | refine blk_alloc ?_ _)); exact BK214.out) hb); have n6_ := Aside0.mk (blk_below (g := gb215) (o := .cells #[.int .i64 a1_0, .int .i64 a1_1, .slice A1_2 l1_2.length c1_2, .slice A1_3 l1_3.length c1_3] 30 (0, 0)) (by (with_reducible repeat (first | refine blk_drewN ?_ _ | refine blk_drew ?_ | refine blk_alloc ?_ _)); exact BK215.out) hb); have n7_ := Aside0.mk (below_step (by repeat (first | (with_reducible first | exact HB.out | apply below_alloc | apply pw_below_drewN | apply below_drew1 | refine below_set ?_ GE214.out | refine below_set ?_ GE215.out) | exact HB.out)) hb); have n8_ := Aside0.mk (hbox); have n9_ := Aside0.mk ((by rw [hg]; exact (below_size (by repeat (first | (with_reducible first | exact HB.out | apply below_alloc | apply pw_below_drewN | apply below_drew1 | refine below_set ?_ GE214.out | refine below_set ?_ GE215.out) | exact HB.out))) : w.heap.size ≤ gb232)); have n10_ := Aside0.mk ((by rw [hg]; exact (below_size (by repeat (first | (with_reducible first | exact HB.out | apply below_alloc | apply pw_below_drewN | apply below_drew1 | refine below_set ?_ GE214.out | refine below_set ?_ GE215.out) | exact HB.out))) : w.heap.size ≤ gb232)); have n11_ := Aside0.mk ((by rw [hg]; exact Nat.ne_of_lt (blk_lt (g := gb214) (o := .cells #[.slice A0_0 l0_0.length c0_0, .slice A0_1 l0_1.length c0_1, .slice A0_2 l0_2.length c0_2, .slice A0_3 l0_3.length c0_3, .slice A0_4 l0_4.length c0_4] 27 (0, 0)) (by (with_reducible repeat (first | refine blk_drewN ?_ _ | refine blk_drew ?_ | refine blk_alloc ?_ _)); exact BK214.out)) : gb214 ≠ gb232)); have n12_ := Aside0.mk ((by rw [hg]; exact Nat.ne_of_gt (blk_lt (g := gb214) (o := .cells #[.slice A0_0 l0_0.length c0_0, .slice A0_1 l0_1.length c0_1, .slice A0_2 l0_2.length c0_2, .slice A0_3 l0_3.length c0_3, .slice A0_4 l0_4.length c0_4] 27 (0, 0)) (by (with_reducible repeat (first | refine blk_drewN ?_ _ | refine blk_drew ?_ | refine blk_alloc ?_ _)); exact BK214.out)) : gb232 ≠ gb214)); have n13_ := Aside0.mk ((by rw [hg]; exact Nat.ne_of_lt (blk_lt (g := gb215) (o := .cells #[.int .i64 a1_0, .int .i64 a1_1, .slice A1_2 l1_2.length c1_2, .slice A1_3 l1_3.length c1_3] 30 (0, 0)) (by (with_reducible repeat (first | refine blk_drewN ?_ _ | refine blk_drew ?_ | refine blk_alloc ?_ _)); exact BK215.out)) : gb215 ≠ gb232)); have n14_ := Aside0.mk ((by rw [hg]; exact Nat.ne_of_gt (blk_lt (g := gb215) (o := .cells #[.int .i64 a1_0, .int .i64 a1_1, .slice A1_2 l1_2.length c1_2, .slice A1_3 l1_3.length c1_3] 30 (0, 0)) (by (with_reducible repeat (first | refine blk_drewN ?_ _ | refine blk_drew ?_ | refine blk_alloc ?_ _)); exact BK215.out)) : gb232 ≠ gb215)); clear HO219; clear HO222; clear HO225; clear HO228; clear HO231; clear BK214; clear BK215; clear HB; have HO219 := n0_; have HO222 := n1_; have HO225 := n2_; have HO228 := n3_; have HO231 := n4_; have BK214 := n5_; have BK215 := n6_; have HB := n7_; have BK232 := n8_; have GW232 := n9_; have GE232 := n10_; have NB214_232 := n11_; have NB232_214 := n12_; have NB215_232 := n13_; have NB232_215 := n14_; clear n0_ n1_ n2_ n3_ n4_ n5_ n6_ n7_ n8_ n9_ n10_ n11_ n12_ n13_ n14_; clear hb hbox hg; obtain ⟨Ao29, co29, eo29⟩ := Kd.R_slice HO219.out; subst eo29; have hnb30 := NB232_214.out; have hnc30 := NB214_232.out; have hnb31 := NB232_215.out; have hnc31 := NB215_232.out; have hcz32_0 : w28.cell? ⟨gb232, 0, none⟩ = some (.slice none 0 0) := (blk_cell BK232.out 0).trans rfl; have hcz32_1 : w28.cell? ⟨gb232, 1, none⟩ = some (.slice none 0 0) := (blk_cell BK232.out 1).trans rfl; have hcz32_2 : w28.cell? ⟨gb232, 2, none⟩ = some (.slice none 0 0) := (blk_cell BK232.out 2).trans rfl; have hcz32_3 : w28.cell? ⟨gb232, 3, none⟩ = some (.slice none 0 0) := (blk_cell BK232.out 3).trans rfl; have hcz32_4 : w28.cell? ⟨gb232, 4, none⟩ = some (.slice none 0 0) := (blk_cell BK232.out 4).trans rfl; have hfz32_0 := blk_frozen BK232.out 0; have hfz32_1 := blk_frozen BK232.out 1; have hfz32_2 := blk_frozen BK232.out 2; have hfz32_3 := blk_frozen BK232.out 3; have hfz32_4 := blk_frozen BK232.out 4; obtain ⟨Ao33, co33, eo33⟩ := Kd.R_slice HO222.out; subst eo33; obtain ⟨Ao34, co34, eo34⟩ := Kd.R_slice HO225.out; subst eo34; obtain ⟨Ao35, co35, eo35⟩ := Kd.R_slice HO228.out; subst eo35; obtain ⟨Ao36, co36, eo36⟩ := Kd.R_slice HO231.out; subst eo36; have hcz37_0 : w28.cell? ⟨gb215, 0, none⟩ = some (.int .i64 a1_0) := (blk_cell BK215.out 0).trans rfl; have hcz37_1 : w28.cell? ⟨gb215, 1, none⟩ = some (.int .i64 a1_1) := (blk_cell BK215.out 1).trans rfl; have hcz37_2 : w28.cell? ⟨gb215, 2, none⟩ = some (.slice A1_2 l1_2.length c1_2) := (blk_cell BK215.out 2).trans rfl; have hcz37_3 : w28.cell? ⟨gb215, 3, none⟩ = some (.slice A1_3 l1_3.length c1_3) := (blk_cell BK215.out 3).trans rfl; have hfz37_0 := blk_frozen BK215.out 0; have hfz37_1 := blk_frozen BK215.out 1; have hfz37_2 := blk_frozen BK215.out 2; have hfz37_3 := blk_frozen BK215.out 3) | ((with_reducible refine gate_callee (f := 15) rfl ?_); refine goesL_ (some 21) rfl rfl Tryd.func15 (by kernel_rfl) rfl #[.agg #[.int .i64 a1_0, .int .i64 a1_1, .slice A1_2 l1_2.length c1_2, .slice A1_3 l1_3.length c1_3]] rfl (by (try simp only [List.map_toArray, List.map_cons, List.map_nil]); first | done | rfl | (simp only [List.length_drop, List.length_take]; rfl)) ?_; (with_reducible refine (proofmarkref30_Fit.calls k a1_0 a1_1 _ _ l1_2 _ _ l1_3 t233 t234 t235 t238 _ ?side1 ?side2 ?side3 ?side4 A6.out).mono ?_); (case side1 => exact Kd.C_below HR1_2.out (by repeat (first | (with_reducible first | exact HB.out | apply below_alloc | apply pw_below_drewN | apply below_drew1 | refine below_set ?_ GE214.out | refine below_set ?_ GE215.out | refine below_set ?_ GE232.out) | exact HB.out))); (case side2 => exact HC1_2.out); (case side3 => exact Kd.C_below HR1_3.out (by repeat (first | (with_reducible first | exact HB.out | apply below_alloc | apply pw_below_drewN | apply below_drew1 | refine below_set ?_ GE214.out | refine below_set ?_ GE215.out | refine below_set ?_ GE232.out) | exact HB.out))); (case side4 => exact HC1_3.out); rintro e w38 ⟨v236, v239, rfl, ho0, ho1, hb⟩; refine ⟨_, rfl, ?_⟩; have n0_ := Aside0.mk (Kd.R_below (by (with_reducible repeat (first | apply Kd.R_alloc | apply Kd.R_drewN | apply Kd.R_drew)); exact (Kd.R_mono (Kd.R_far (p := ⟨gb232, 4, none⟩) (Kd.R_far (p := ⟨gb232, 3, none⟩) (Kd.R_far (p := ⟨gb232, 2, none⟩) (Kd.R_far (p := ⟨gb232, 1, none⟩) (Kd.R_far (p := ⟨gb232, 0, none⟩) (Kd.R_types HO219.out BK232.out (by decide)) (fun _ hk => hk.2) (.slice Ao29 t217.length co29)) (fun _ hk => hk.2) (.slice Ao33 t220.length co33)) (fun _ hk => hk.2) (.slice Ao34 t223.length co34)) (fun _ hk => hk.2) (.slice Ao35 t226.length co35)) (fun _ hk => hk.2) (.slice Ao36 t229.length co36)) (fun _ h_ => h_.1))) hb); have n1_ := Aside0.mk (Kd.R_below (by (with_reducible repeat (first | apply Kd.R_alloc | apply Kd.R_drewN | apply Kd.R_drew)); exact (Kd.R_mono (Kd.R_far (p := ⟨gb232, 4, none⟩) (Kd.R_far (p := ⟨gb232, 3, none⟩) (Kd.R_far (p := ⟨gb232, 2, none⟩) (Kd.R_far (p := ⟨gb232, 1, none⟩) (Kd.R_far (p := ⟨gb232, 0, none⟩) (Kd.R_types HO222.out BK232.out (by decide)) (fun _ hk => hk.2) (.slice Ao29 t217.length co29)) (fun _ hk => hk.2) (.slice Ao33 t220.length co33)) (fun _ hk => hk.2) (.slice Ao34 t223.length co34)) (fun _ hk => hk.2) (.slice Ao35 t226.length co35)) (fun _ hk => hk.2) (.slice Ao36 t229.length co36)) (fun _ h_ => h_.1))) hb); have n2_ := Aside0.mk (Kd.R_below (by (with_reducible repeat (first | apply Kd.R_alloc | apply Kd.R_drewN | apply Kd.R_drew)); exact (Kd.R_mono (Kd.R_far (p := ⟨gb232, 4, none⟩) (Kd.R_far (p := ⟨gb232, 3, none⟩) (Kd.R_far (p := ⟨gb232, 2, none⟩) (Kd.R_far (p := ⟨gb232, 1, none⟩) (Kd.R_far (p := ⟨gb232, 0, none⟩) (Kd.R_types HO225.out BK232.out (by decide)) (fun _ hk => hk.2) (.slice Ao29 t217.length co29)) (fun _ hk => hk.2) (.slice Ao33 t220.length co33)) (fun _ hk => hk.2) (.slice Ao34 t223.length co34)) (fun _ hk => hk.2) (.slice Ao35 t226.length co35)) (fun _ hk => hk.2) (.slice Ao36 t229.length co36)) (fun _ h_ => h_.1))) hb); have n3_ := Aside0.mk (Kd.R_below (by (with_reducible repeat (first | apply Kd.R_alloc | apply Kd.R_drewN | apply Kd.R_drew)); exact (Kd.R_mono (Kd.R_far (p := ⟨gb232, 4, none⟩) (Kd.R_far (p := ⟨gb232, 3, none⟩) (Kd.R_far (p := ⟨gb232, 2, none⟩) (Kd.R_far (p := ⟨gb232, 1, none⟩) (Kd.R_far (p := ⟨gb232, 0, none⟩) (Kd.R_types HO228.out BK232.out (by decide)) (fun _ hk => hk.2) (.slice Ao29 t217.length co29)) (fun _ hk => hk.2) (.slice Ao33 t220.length co33)) (fun _ hk => hk.2) (.slice Ao34 t223.length co34)) (fun _ hk => hk.2) (.slice Ao35 t226.length co35)) (fun _ hk => hk.2) (.slice Ao36 t229.length co36)) (fun _ h_ => h_.1))) hb); have n4_ := Aside0.mk (Kd.R_below (by (with_reducible repeat (first | apply Kd.R_alloc | apply Kd.R_drewN | apply Kd.R_drew)); exact (Kd.R_mono (Kd.R_far (p := ⟨gb232, 4, none⟩) (Kd.R_far (p := ⟨gb232, 3, none⟩) (Kd.R_far (p := ⟨gb232, 2, none⟩) (Kd.R_far (p := ⟨gb232, 1, none⟩) (Kd.R_far (p := ⟨gb232, 0, none⟩) (Kd.R_types HO231.out BK232.out (by decide)) (fun _ hk => hk.2) (.slice Ao29 t217.length co29)) (fun _ hk => hk.2) (.slice Ao33 t220.length co33)) (fun _ hk => hk.2) (.slice Ao34 t223.length co34)) (fun _ hk => hk.2) (.slice Ao35 t226.length co35)) (fun _ hk => hk.2) (.slice Ao36 t229.length co36)) (fun _ h_ => h_.1))) hb); have n5_ := Aside0.mk (Kd.S_lower ho0 (below_size (by repeat (first | (with_reducible first | exact HB.out | apply below_alloc | apply pw_below_drewN | apply below_drew1 | refine below_set ?_ GE214.out | refine below_set ?_ GE215.out | refine below_set ?_ GE232.out) | exact HB.out)))); have n6_ := Aside0.mk (Kd.S_lower ho1 (below_size (by repeat (first | (with_reducible first | exact HB.out | apply below_alloc | apply pw_below_drewN | apply below_drew1 | refine below_set ?_ GE214.out | refine below_set ?_ GE215.out | refine below_set ?_ GE232.out) | exact HB.out)))); have n7_ := Aside0.mk (blk_below (g := gb214) (o := .cells #[.slice A0_0 l0_0.length c0_0, .slice A0_1 l0_1.length c0_1, .slice A0_2 l0_2.length c0_2, .slice A0_3 l0_3.length c0_3, .slice A0_4 l0_4.length c0_4] 27 (0, 0)) (by (with_reducible repeat (first | refine blk_drewN ?_ _ | refine blk_drew ?_ | refine blk_alloc ?_ _)); refine blk_far ?_ NB214_232.out _; (with_reducible repeat (first | refine blk_drewN ?_ _ | refine blk_drew ?_ | refine blk_alloc ?_ _)); refine blk_far ?_ NB214_232.out _; (with_reducible repeat (first | refine blk_drewN ?_ _ | refine blk_drew ?_ | refine blk_alloc ?_ _)); refine blk_far ?_ NB214_232.out _; (with_reducible repeat (first | refine blk_drewN ?_ _ | refine blk_drew ?_ | refine blk_alloc ?_ _)); refine blk_far ?_ NB214_232.out _; (with_reducible repeat (first | refine blk_drewN ?_ _ | refine blk_drew ?_ | refine blk_alloc ?_ _)); refine blk_far ?_ NB214_232.out _; (with_reducible repeat (first | refine blk_drewN ?_ _ | refine blk_drew ?_ | refine blk_alloc ?_ _)); exact BK214.out) hb); have n8_ := Aside0.mk (blk_below (g := gb215) (o := .cells #[.int .i64 a1_0, .int .i64 a1_1, .slice A1_2 l1_2.length c1_2, .slice A1_3 l1_3.length c1_3] 30 (0, 0)) (by (with_reducible repeat (first | refine blk_drewN ?_ _ | refine blk_drew ?_ | refine blk_alloc ?_ _)); refine blk_far ?_ NB215_232.out _; (with_reducible repeat (first | refine blk_drewN ?_ _ | refine blk_drew ?_ | refine blk_alloc ?_ _)); refine blk_far ?_ NB215_232.out _; (with_reducible repeat (first | refine blk_drewN ?_ _ | refine blk_drew ?_ | refine blk_alloc ?_ _)); refine blk_far ?_ NB215_232.out _; (with_reducible repeat (first | refine blk_drewN ?_ _ | refine blk_drew ?_ | refine blk_alloc ?_ _)); refine blk_far ?_ NB215_232.out _; (with_reducible repeat (first | refine blk_drewN ?_ _ | refine blk_drew ?_ | refine blk_alloc ?_ _)); refine blk_far ?_ NB215_232.out _; (with_reducible repeat (first | refine blk_drewN ?_ _ | refine blk_drew ?_ | refine blk_alloc ?_ _)); exact BK215.out) hb); have n9_ := Aside0.mk (blk_below (g := gb232) (o := .cells #[.slice Ao29 t217.length co29, .slice Ao33 t220.length co33, .slice Ao34 t223.length co34, .slice Ao35 t226.length co35, .slice Ao36 t229.length co36] 27 (0, 0)) (by (with_reducible repeat (first | refine blk_drewN ?_ _ | refine blk_drew ?_ | refine blk_alloc ?_ _)); refine blk_put (cs := #[.slice Ao29 t217.length co29, .slice Ao33 t220.length co33, .slice Ao34 t223.length co34, .slice Ao35 t226.length co35, .slice none 0 0]) ?_ 4 _ rfl; (with_reducible repeat (first | refine blk_drewN ?_ _ | refine blk_drew ?_ | refine blk_alloc ?_ _)); refine blk_put (cs := #[.slice Ao29 t217.length co29, .slice Ao33 t220.length co33, .slice Ao34 t223.length co34, .slice none 0 0, .slice none 0 0]) ?_ 3 _ rfl; (with_reducible repeat (first | refine blk_drewN ?_ _ | refine blk_drew ?_ | refine blk_alloc ?_ _)); refine blk_put (cs := #[.slice Ao29 t217.length co29, .slice Ao33 t220.length co33, .slice none 0 0, .slice none 0 0, .slice none 0 0]) ?_ 2 _ rfl; (with_reducible repeat (first | refine blk_drewN ?_ _ | refine blk_drew ?_ | refine blk_alloc ?_ _)); refine blk_put (cs := #[.slice Ao29 t217.length co29, .slice none 0 0, .slice none 0 0, .slice none 0 0, .slice none 0 0]) ?_ 1 _ rfl; (with_reducible repeat (first | refine blk_drewN ?_ _ | refine blk_drew ?_ | refine blk_alloc ?_ _)); refine blk_put (cs := #[.slice none 0 0, .slice none 0 0, .slice none 0 0, .slice none 0 0, .slice none 0 0]) ?_ 0 _ rfl; (with_reducible repeat (first | refine blk_drewN ?_ _ | refine blk_drew ?_ | refine blk_alloc ?_ _)); exact BK232.out) hb); have n10_ := Aside0.mk (below_step (by repeat (first | (with_reducible first | exact HB.out | apply below_alloc | apply pw_below_drewN | apply below_drew1 | refine below_set ?_ GE214.out | refine below_set ?_ GE215.out | refine below_set ?_ GE232.out) | exact HB.out)) hb); clear HO219; clear HO222; clear HO225; clear HO228; clear HO231; clear BK214; clear BK215; clear BK232; clear HB; have HO219 := n0_; have HO222 := n1_; have HO225 := n2_; have HO228 := n3_; have HO231 := n4_; have HO237 := n5_; have HO240 := n6_; have BK214 := n7_; have BK215 := n8_; have BK232 := n9_; have HB := n10_; clear n0_ n1_ n2_ n3_ n4_ n5_ n6_ n7_ n8_ n9_ n10_; (try clear hb); (try clear hb2); (try clear hk); (try clear hi); (try clear ho0); (try clear ho1)) | ((with_reducible refine gate_dst (N := 9) rfl ?_); (try (refine gate_guard (by rfl) ?_; dsimp only)); refine box_event ?hg (N := 9) ?hd (cs := #[.int .i64 0, .int .i64 0, .slice none 0 0, .slice none 0 0]) (t := 30) ?hr ?_; (case hd => rfl); (case hg => rfl); (case hr => first | (go_simp; done) | (go_simp; rfl)); intro gb241 hg w39 hbox hb; have n0_ := Aside0.mk (Kd.R_below (by (with_reducible repeat (first | apply Kd.R_alloc | apply Kd.R_drewN | apply Kd.R_drew)); exact HO219.out) hb); have n1_ := Aside0.mk (Kd.R_below (by (with_reducible repeat (first | apply Kd.R_alloc | apply Kd.R_drewN | apply Kd.R_drew)); exact HO222.out) hb); have n2_ := Aside0.mk (Kd.R_below (by (with_reducible repeat (first | apply Kd.R_alloc | apply Kd.R_drewN | apply Kd.R_drew)); exact HO225.out) hb); have n3_ := Aside0.mk (Kd.R_below (by (with_reducible repeat (first | apply Kd.R_alloc | apply Kd.R_drewN | apply Kd.R_drew)); exact HO228.out) hb); have n4_ := Aside0.mk (Kd.R_below (by (with_reducible repeat (first | apply Kd.R_alloc | apply Kd.R_drewN | apply Kd.R_drew)); exact HO231.out) hb); have n5_ := Aside0.mk (Kd.S_below (by (with_reducible repeat (first | apply Kd.S_alloc | apply Kd.S_drewN | apply Kd.S_drew)); exact HO237.out) hb); have n6_ := Aside0.mk (Kd.S_below (by (with_reducible repeat (first | apply Kd.S_alloc | apply Kd.S_drewN | apply Kd.S_drew)); exact HO240.out) hb); have n7_ := Aside0.mk (blk_below (g := gb214) (o := .cells #[.slice A0_0 l0_0.length c0_0, .slice A0_1 l0_1.length c0_1, .slice A0_2 l0_2.length c0_2, .slice A0_3 l0_3.length c0_3, .slice A0_4 l0_4.length c0_4] 27 (0, 0)) (by (with_reducible repeat (first | refine blk_drewN ?_ _ | refine blk_drew ?_ | refine blk_alloc ?_ _)); exact BK214.out) hb); have n8_ := Aside0.mk (blk_below (g := gb215) (o := .cells #[.int .i64 a1_0, .int .i64 a1_1, .slice A1_2 l1_2.length c1_2, .slice A1_3 l1_3.length c1_3] 30 (0, 0)) (by (with_reducible repeat (first | refine blk_drewN ?_ _ | refine blk_drew ?_ | refine blk_alloc ?_ _)); exact BK215.out) hb); have n9_ := Aside0.mk (blk_below (g := gb232) (o := .cells #[.slice Ao29 t217.length co29, .slice Ao33 t220.length co33, .slice Ao34 t223.length co34, .slice Ao35 t226.length co35, .slice Ao36 t229.length co36] 27 (0, 0)) (by (with_reducible repeat (first | refine blk_drewN ?_ _ | refine blk_drew ?_ | refine blk_alloc ?_ _)); exact BK232.out) hb); have n10_ := Aside0.mk (below_step (by repeat (first | (with_reducible first | exact HB.out | apply below_alloc | apply pw_below_drewN | apply below_drew1 | refine below_set ?_ GE214.out | refine below_set ?_ GE215.out | refine below_set ?_ GE232.out) | exact HB.out)) hb); have n11_ := Aside0.mk (hbox); have n12_ := Aside0.mk ((by rw [hg]; exact (below_size (by repeat (first | (with_reducible first | exact HB.out | apply below_alloc | apply pw_below_drewN | apply below_drew1 | refine below_set ?_ GE214.out | refine below_set ?_ GE215.out | refine below_set ?_ GE232.out) | exact HB.out))) : w.heap.size ≤ gb241)); have n13_ := Aside0.mk ((by rw [hg]; exact (below_size (by repeat (first | (with_reducible first | exact HB.out | apply below_alloc | apply pw_below_drewN | apply below_drew1 | refine below_set ?_ GE214.out | refine below_set ?_ GE215.out | refine below_set ?_ GE232.out) | exact HB.out))) : w.heap.size ≤ gb241)); have n14_ := Aside0.mk ((by rw [hg]; exact Nat.ne_of_lt (blk_lt (g := gb214) (o := .cells #[.slice A0_0 l0_0.length c0_0, .slice A0_1 l0_1.length c0_1, .slice A0_2 l0_2.length c0_2, .slice A0_3 l0_3.length c0_3, .slice A0_4 l0_4.length c0_4] 27 (0, 0)) (by (with_reducible repeat (first | refine blk_drewN ?_ _ | refine blk_drew ?_ | refine blk_alloc ?_ _)); exact BK214.out)) : gb214 ≠ gb241)); have n15_ := Aside0.mk ((by rw [hg]; exact Nat.ne_of_gt (blk_lt (g := gb214) (o := .cells #[.slice A0_0 l0_0.length c0_0, .slice A0_1 l0_1.length c0_1, .slice A0_2 l0_2.length c0_2, .slice A0_3 l0_3.length c0_3, .slice A0_4 l0_4.length c0_4] 27 (0, 0)) (by (with_reducible repeat (first | refine blk_drewN ?_ _ | refine blk_drew ?_ | refine blk_alloc ?_ _)); exact BK214.out)) : gb241 ≠ gb214)); have n16_ := Aside0.mk ((by rw [hg]; exact Nat.ne_of_lt (blk_lt (g := gb215) (o := .cells #[.int .i64 a1_0, .int .i64 a1_1, .slice A1_2 l1_2.length c1_2, .slice A1_3 l1_3.length c1_3] 30 (0, 0)) (by (with_reducible repeat (first | refine blk_drewN ?_ _ | refine blk_drew ?_ | refine blk_alloc ?_ _)); exact BK215.out)) : gb215 ≠ gb241)); have n17_ := Aside0.mk ((by rw [hg]; exact Nat.ne_of_gt (blk_lt (g := gb215) (o := .cells #[.int .i64 a1_0, .int .i64 a1_1, .slice A1_2 l1_2.length c1_2, .slice A1_3 l1_3.length c1_3] 30 (0, 0)) (by (with_reducible repeat (first | refine blk_drewN ?_ _ | refine blk_drew ?_ | refine blk_alloc ?_ _)); exact BK215.out)) : gb241 ≠ gb215)); have n18_ := Aside0.mk ((by rw [hg]; exact Nat.ne_of_lt (blk_lt (g := gb232) (o := .cells #[.slice Ao29 t217.length co29, .slice Ao33 t220.length co33, .slice Ao34 t223.length co34, .slice Ao35 t226.length co35, .slice Ao36 t229.length co36] 27 (0, 0)) (by (with_reducible repeat (first | refine blk_drewN ?_ _ | refine blk_drew ?_ | refine blk_alloc ?_ _)); exact BK232.out)) : gb232 ≠ gb241)); have n19_ := Aside0.mk ((by rw [hg]; exact Nat.ne_of_gt (blk_lt (g := gb232) (o := .cells #[.slice Ao29 t217.length co29, .slice Ao33 t220.length co33, .slice Ao34 t223.length co34, .slice Ao35 t226.length co35, .slice Ao36 t229.length co36] 27 (0, 0)) (by (with_reducible repeat (first | refine blk_drewN ?_ _ | refine blk_drew ?_ | refine blk_alloc ?_ _)); exact BK232.out)) : gb241 ≠ gb232)); clear HO219; clear HO222; clear HO225; clear HO228; clear HO231; clear HO237; clear HO240; clear BK214; clear BK215; clear BK232; clear HB; have HO219 := n0_; have HO222 := n1_; have HO225 := n2_; have HO228 := n3_; have HO231 := n4_; have HO237 := n5_; have HO240 := n6_; have BK214 := n7_; have BK215 := n8_; have BK232 := n9_; have HB := n10_; have BK241 := n11_; have GW241 := n12_; have GE241 := n13_; have NB214_241 := n14_; have NB241_214 := n15_; have NB215_241 := n16_; have NB241_215 := n17_; have NB232_241 := n18_; have NB241_232 := n19_; clear n0_ n1_ n2_ n3_ n4_ n5_ n6_ n7_ n8_ n9_ n10_ n11_ n12_ n13_ n14_ n15_ n16_ n17_ n18_ n19_; clear hb hbox hg; have hnb40 := NB241_214.out; have hnc40 := NB214_241.out; have hnb41 := NB241_215.out; have hnc41 := NB215_241.out; have hnb42 := NB241_232.out; have hnc42 := NB232_241.out; have hcz43_0 : w39.cell? ⟨gb241, 0, none⟩ = some (.int .i64 0) := (blk_cell BK241.out 0).trans rfl; have hcz43_1 : w39.cell? ⟨gb241, 1, none⟩ = some (.int .i64 0) := (blk_cell BK241.out 1).trans rfl; have hcz43_2 : w39.cell? ⟨gb241, 2, none⟩ = some (.slice none 0 0) := (blk_cell BK241.out 2).trans rfl; have hcz43_3 : w39.cell? ⟨gb241, 3, none⟩ = some (.slice none 0 0) := (blk_cell BK241.out 3).trans rfl; have hfz43_0 := blk_frozen BK241.out 0; have hfz43_1 := blk_frozen BK241.out 1; have hfz43_2 := blk_frozen BK241.out 2; have hfz43_3 := blk_frozen BK241.out 3; obtain ⟨Ao44, co44, eo44⟩ := Kd.S_slice HO237.out; subst eo44; obtain ⟨Ao45, co45, eo45⟩ := Kd.S_slice HO240.out; subst eo45))
  have n0_ : Aside0 (Kd.R k96 96 ((((w39.setCell ⟨gb241, 0, none⟩ (.int .i64 t233)).setCell ⟨gb241, 1, none⟩ (.int .i64 t234)).setCell ⟨gb241, 2, none⟩ (.slice Ao44 t235.length co44)).setCell ⟨gb241, 3, none⟩ (.slice Ao45 t238.length co45)) w.heap.size (fun _ => True) (.slice Ao29 t217.length co29) t217) := ⟨by (with_reducible repeat (first | apply Kd.R_alloc | apply Kd.R_drewN | apply Kd.R_drew)); exact Kd.R_mono (Kd.R_far (p := ⟨gb241, 3, none⟩) (Kd.R_far (p := ⟨gb241, 2, none⟩) (Kd.R_far (p := ⟨gb241, 1, none⟩) (Kd.R_far (p := ⟨gb241, 0, none⟩) (Kd.R_types HO219.out BK241.out (by decide)) (fun _ hk => hk.2) (.int .i64 t233)) (fun _ hk => hk.2) (.int .i64 t234)) (fun _ hk => hk.2) (.slice Ao44 t235.length co44)) (fun _ hk => hk.2) (.slice Ao45 t238.length co45)) (fun _ hk => trivial)⟩
  have n1_ : Aside0 (Kd.R k111 111 ((((w39.setCell ⟨gb241, 0, none⟩ (.int .i64 t233)).setCell ⟨gb241, 1, none⟩ (.int .i64 t234)).setCell ⟨gb241, 2, none⟩ (.slice Ao44 t235.length co44)).setCell ⟨gb241, 3, none⟩ (.slice Ao45 t238.length co45)) w.heap.size (fun k_ => some k_ ≠ (.slice Ao36 t229.length co36 : Value).ownBlock) (.slice Ao33 t220.length co33) t220) := ⟨by (with_reducible repeat (first | apply Kd.R_alloc | apply Kd.R_drewN | apply Kd.R_drew)); exact Kd.R_mono (Kd.R_far (p := ⟨gb241, 3, none⟩) (Kd.R_far (p := ⟨gb241, 2, none⟩) (Kd.R_far (p := ⟨gb241, 1, none⟩) (Kd.R_far (p := ⟨gb241, 0, none⟩) (Kd.R_types HO222.out BK241.out (by decide)) (fun _ hk => hk.2) (.int .i64 t233)) (fun _ hk => hk.2) (.int .i64 t234)) (fun _ hk => hk.2) (.slice Ao44 t235.length co44)) (fun _ hk => hk.2) (.slice Ao45 t238.length co45)) (fun _ hk => hk.1)⟩
  have n2_ : Aside0 (Kd.R k94 94 ((((w39.setCell ⟨gb241, 0, none⟩ (.int .i64 t233)).setCell ⟨gb241, 1, none⟩ (.int .i64 t234)).setCell ⟨gb241, 2, none⟩ (.slice Ao44 t235.length co44)).setCell ⟨gb241, 3, none⟩ (.slice Ao45 t238.length co45)) w.heap.size (fun _ => True) (.slice Ao34 t223.length co34) t223) := ⟨by (with_reducible repeat (first | apply Kd.R_alloc | apply Kd.R_drewN | apply Kd.R_drew)); exact Kd.R_mono (Kd.R_far (p := ⟨gb241, 3, none⟩) (Kd.R_far (p := ⟨gb241, 2, none⟩) (Kd.R_far (p := ⟨gb241, 1, none⟩) (Kd.R_far (p := ⟨gb241, 0, none⟩) (Kd.R_types HO225.out BK241.out (by decide)) (fun _ hk => hk.2) (.int .i64 t233)) (fun _ hk => hk.2) (.int .i64 t234)) (fun _ hk => hk.2) (.slice Ao44 t235.length co44)) (fun _ hk => hk.2) (.slice Ao45 t238.length co45)) (fun _ hk => trivial)⟩
  have n3_ : Aside0 (Kd.R k73 73 ((((w39.setCell ⟨gb241, 0, none⟩ (.int .i64 t233)).setCell ⟨gb241, 1, none⟩ (.int .i64 t234)).setCell ⟨gb241, 2, none⟩ (.slice Ao44 t235.length co44)).setCell ⟨gb241, 3, none⟩ (.slice Ao45 t238.length co45)) w.heap.size (fun _ => True) (.slice Ao35 t226.length co35) t226) := ⟨by (with_reducible repeat (first | apply Kd.R_alloc | apply Kd.R_drewN | apply Kd.R_drew)); exact Kd.R_mono (Kd.R_far (p := ⟨gb241, 3, none⟩) (Kd.R_far (p := ⟨gb241, 2, none⟩) (Kd.R_far (p := ⟨gb241, 1, none⟩) (Kd.R_far (p := ⟨gb241, 0, none⟩) (Kd.R_types HO228.out BK241.out (by decide)) (fun _ hk => hk.2) (.int .i64 t233)) (fun _ hk => hk.2) (.int .i64 t234)) (fun _ hk => hk.2) (.slice Ao44 t235.length co44)) (fun _ hk => hk.2) (.slice Ao45 t238.length co45)) (fun _ hk => trivial)⟩
  have n4_ : Aside0 (Kd.R k111 111 ((((w39.setCell ⟨gb241, 0, none⟩ (.int .i64 t233)).setCell ⟨gb241, 1, none⟩ (.int .i64 t234)).setCell ⟨gb241, 2, none⟩ (.slice Ao44 t235.length co44)).setCell ⟨gb241, 3, none⟩ (.slice Ao45 t238.length co45)) w.heap.size (fun k_ => some k_ ≠ (.slice Ao33 t220.length co33 : Value).ownBlock) (.slice Ao36 t229.length co36) t229) := ⟨by (with_reducible repeat (first | apply Kd.R_alloc | apply Kd.R_drewN | apply Kd.R_drew)); exact Kd.R_mono (Kd.R_far (p := ⟨gb241, 3, none⟩) (Kd.R_far (p := ⟨gb241, 2, none⟩) (Kd.R_far (p := ⟨gb241, 1, none⟩) (Kd.R_far (p := ⟨gb241, 0, none⟩) (Kd.R_types HO231.out BK241.out (by decide)) (fun _ hk => hk.2) (.int .i64 t233)) (fun _ hk => hk.2) (.int .i64 t234)) (fun _ hk => hk.2) (.slice Ao44 t235.length co44)) (fun _ hk => hk.2) (.slice Ao45 t238.length co45)) (fun _ hk => hk.1)⟩
  have n5_ : Aside0 (Kd.S (Kd.slice 3 (Kd.int .i64)) 55 ((((w39.setCell ⟨gb241, 0, none⟩ (.int .i64 t233)).setCell ⟨gb241, 1, none⟩ (.int .i64 t234)).setCell ⟨gb241, 2, none⟩ (.slice Ao44 t235.length co44)).setCell ⟨gb241, 3, none⟩ (.slice Ao45 t238.length co45)) w.heap.size (fun k_ => some k_ ≠ (.slice Ao45 t238.length co45 : Value).ownBlock) (.slice Ao44 t235.length co44) t235) := ⟨by (with_reducible repeat (first | apply Kd.S_alloc | apply Kd.S_drewN | apply Kd.S_drew)); exact Kd.S_mono (Kd.S_far (p := ⟨gb241, 3, none⟩) (Kd.S_far (p := ⟨gb241, 2, none⟩) (Kd.S_far (p := ⟨gb241, 1, none⟩) (Kd.S_far (p := ⟨gb241, 0, none⟩) (Kd.S_types HO237.out BK241.out (by decide)) (fun _ hk => hk.2) (.int .i64 t233)) (fun _ hk => hk.2) (.int .i64 t234)) (fun _ hk => hk.2) (.slice Ao44 t235.length co44)) (fun _ hk => hk.2) (.slice Ao45 t238.length co45)) (fun _ hk => hk.1)⟩
  have n6_ : Aside0 (Kd.S (Kd.slice 3 (Kd.int .i64)) 55 ((((w39.setCell ⟨gb241, 0, none⟩ (.int .i64 t233)).setCell ⟨gb241, 1, none⟩ (.int .i64 t234)).setCell ⟨gb241, 2, none⟩ (.slice Ao44 t235.length co44)).setCell ⟨gb241, 3, none⟩ (.slice Ao45 t238.length co45)) w.heap.size (fun k_ => some k_ ≠ (.slice Ao44 t235.length co44 : Value).ownBlock) (.slice Ao45 t238.length co45) t238) := ⟨by (with_reducible repeat (first | apply Kd.S_alloc | apply Kd.S_drewN | apply Kd.S_drew)); exact Kd.S_mono (Kd.S_far (p := ⟨gb241, 3, none⟩) (Kd.S_far (p := ⟨gb241, 2, none⟩) (Kd.S_far (p := ⟨gb241, 1, none⟩) (Kd.S_far (p := ⟨gb241, 0, none⟩) (Kd.S_types HO240.out BK241.out (by decide)) (fun _ hk => hk.2) (.int .i64 t233)) (fun _ hk => hk.2) (.int .i64 t234)) (fun _ hk => hk.2) (.slice Ao44 t235.length co44)) (fun _ hk => hk.2) (.slice Ao45 t238.length co45)) (fun _ hk => hk.1)⟩
  have n7_ : Aside0 (((((w39.setCell ⟨gb241, 0, none⟩ (.int .i64 t233)).setCell ⟨gb241, 1, none⟩ (.int .i64 t234)).setCell ⟨gb241, 2, none⟩ (.slice Ao44 t235.length co44)).setCell ⟨gb241, 3, none⟩ (.slice Ao45 t238.length co45)).heap[gb214]? = some (.cells #[.slice A0_0 l0_0.length c0_0, .slice A0_1 l0_1.length c0_1, .slice A0_2 l0_2.length c0_2, .slice A0_3 l0_3.length c0_3, .slice A0_4 l0_4.length c0_4] 27 (0, 0))) := ⟨by (with_reducible repeat (first | refine blk_drewN ?_ _ | refine blk_drew ?_ | refine blk_alloc ?_ _)); refine blk_far ?_ NB214_241.out _; (with_reducible repeat (first | refine blk_drewN ?_ _ | refine blk_drew ?_ | refine blk_alloc ?_ _)); refine blk_far ?_ NB214_241.out _; (with_reducible repeat (first | refine blk_drewN ?_ _ | refine blk_drew ?_ | refine blk_alloc ?_ _)); refine blk_far ?_ NB214_241.out _; (with_reducible repeat (first | refine blk_drewN ?_ _ | refine blk_drew ?_ | refine blk_alloc ?_ _)); refine blk_far ?_ NB214_241.out _; (with_reducible repeat (first | refine blk_drewN ?_ _ | refine blk_drew ?_ | refine blk_alloc ?_ _)); exact BK214.out⟩
  have n8_ : Aside0 (((((w39.setCell ⟨gb241, 0, none⟩ (.int .i64 t233)).setCell ⟨gb241, 1, none⟩ (.int .i64 t234)).setCell ⟨gb241, 2, none⟩ (.slice Ao44 t235.length co44)).setCell ⟨gb241, 3, none⟩ (.slice Ao45 t238.length co45)).heap[gb215]? = some (.cells #[.int .i64 a1_0, .int .i64 a1_1, .slice A1_2 l1_2.length c1_2, .slice A1_3 l1_3.length c1_3] 30 (0, 0))) := ⟨by (with_reducible repeat (first | refine blk_drewN ?_ _ | refine blk_drew ?_ | refine blk_alloc ?_ _)); refine blk_far ?_ NB215_241.out _; (with_reducible repeat (first | refine blk_drewN ?_ _ | refine blk_drew ?_ | refine blk_alloc ?_ _)); refine blk_far ?_ NB215_241.out _; (with_reducible repeat (first | refine blk_drewN ?_ _ | refine blk_drew ?_ | refine blk_alloc ?_ _)); refine blk_far ?_ NB215_241.out _; (with_reducible repeat (first | refine blk_drewN ?_ _ | refine blk_drew ?_ | refine blk_alloc ?_ _)); refine blk_far ?_ NB215_241.out _; (with_reducible repeat (first | refine blk_drewN ?_ _ | refine blk_drew ?_ | refine blk_alloc ?_ _)); exact BK215.out⟩
  have n9_ : Aside0 (((((w39.setCell ⟨gb241, 0, none⟩ (.int .i64 t233)).setCell ⟨gb241, 1, none⟩ (.int .i64 t234)).setCell ⟨gb241, 2, none⟩ (.slice Ao44 t235.length co44)).setCell ⟨gb241, 3, none⟩ (.slice Ao45 t238.length co45)).heap[gb232]? = some (.cells #[.slice Ao29 t217.length co29, .slice Ao33 t220.length co33, .slice Ao34 t223.length co34, .slice Ao35 t226.length co35, .slice Ao36 t229.length co36] 27 (0, 0))) := ⟨by (with_reducible repeat (first | refine blk_drewN ?_ _ | refine blk_drew ?_ | refine blk_alloc ?_ _)); refine blk_far ?_ NB232_241.out _; (with_reducible repeat (first | refine blk_drewN ?_ _ | refine blk_drew ?_ | refine blk_alloc ?_ _)); refine blk_far ?_ NB232_241.out _; (with_reducible repeat (first | refine blk_drewN ?_ _ | refine blk_drew ?_ | refine blk_alloc ?_ _)); refine blk_far ?_ NB232_241.out _; (with_reducible repeat (first | refine blk_drewN ?_ _ | refine blk_drew ?_ | refine blk_alloc ?_ _)); refine blk_far ?_ NB232_241.out _; (with_reducible repeat (first | refine blk_drewN ?_ _ | refine blk_drew ?_ | refine blk_alloc ?_ _)); exact BK232.out⟩
  have n10_ : Aside0 (((((w39.setCell ⟨gb241, 0, none⟩ (.int .i64 t233)).setCell ⟨gb241, 1, none⟩ (.int .i64 t234)).setCell ⟨gb241, 2, none⟩ (.slice Ao44 t235.length co44)).setCell ⟨gb241, 3, none⟩ (.slice Ao45 t238.length co45)).heap[gb241]? = some (.cells #[.int .i64 t233, .int .i64 t234, .slice Ao44 t235.length co44, .slice Ao45 t238.length co45] 30 (0, 0))) := ⟨by (with_reducible repeat (first | refine blk_drewN ?_ _ | refine blk_drew ?_ | refine blk_alloc ?_ _)); refine blk_put (cs := #[.int .i64 t233, .int .i64 t234, .slice Ao44 t235.length co44, .slice none 0 0]) ?_ 3 _ rfl; (with_reducible repeat (first | refine blk_drewN ?_ _ | refine blk_drew ?_ | refine blk_alloc ?_ _)); refine blk_put (cs := #[.int .i64 t233, .int .i64 t234, .slice none 0 0, .slice none 0 0]) ?_ 2 _ rfl; (with_reducible repeat (first | refine blk_drewN ?_ _ | refine blk_drew ?_ | refine blk_alloc ?_ _)); refine blk_put (cs := #[.int .i64 t233, .int .i64 0, .slice none 0 0, .slice none 0 0]) ?_ 1 _ rfl; (with_reducible repeat (first | refine blk_drewN ?_ _ | refine blk_drew ?_ | refine blk_alloc ?_ _)); refine blk_put (cs := #[.int .i64 0, .int .i64 0, .slice none 0 0, .slice none 0 0]) ?_ 0 _ rfl; (with_reducible repeat (first | refine blk_drewN ?_ _ | refine blk_drew ?_ | refine blk_alloc ?_ _)); exact BK241.out⟩
  have n11_ : Aside0 (Below w.heap.size w ((((w39.setCell ⟨gb241, 0, none⟩ (.int .i64 t233)).setCell ⟨gb241, 1, none⟩ (.int .i64 t234)).setCell ⟨gb241, 2, none⟩ (.slice Ao44 t235.length co44)).setCell ⟨gb241, 3, none⟩ (.slice Ao45 t238.length co45))) := ⟨by repeat (first | (with_reducible first | exact HB.out | apply below_alloc | apply pw_below_drewN | apply below_drew1 | refine below_set ?_ GE214.out | refine below_set ?_ GE215.out | refine below_set ?_ GE232.out | refine below_set ?_ GE241.out) | exact HB.out)⟩
  (try clear HO219)
  (try clear HO222)
  (try clear HO225)
  (try clear HO228)
  (try clear HO231)
  (try clear HO237)
  (try clear HO240)
  (try clear BK214)
  (try clear BK215)
  (try clear BK232)
  (try clear BK241)
  (try clear HB)
  generalize ((((w39.setCell ⟨gb241, 0, none⟩ (.int .i64 t233)).setCell ⟨gb241, 1, none⟩ (.int .i64 t234)).setCell ⟨gb241, 2, none⟩ (.slice Ao44 t235.length co44)).setCell ⟨gb241, 3, none⟩ (.slice Ao45 t238.length co45)) = w46 at n0_ n1_ n2_ n3_ n4_ n5_ n6_ n7_ n8_ n9_ n10_ n11_ ⊢
  have HO219 := n0_
  have HO222 := n1_
  have HO225 := n2_
  have HO228 := n3_
  have HO231 := n4_
  have HO237 := n5_
  have HO240 := n6_
  have BK214 := n7_
  have BK215 := n8_
  have BK232 := n9_
  have BK241 := n10_
  have HB := n11_
  clear n0_ n1_ n2_ n3_ n4_ n5_ n6_ n7_ n8_ n9_ n10_ n11_
  have n0_ := Aside0.mk (Kd.R_drew HO219.out)
  have n1_ := Aside0.mk (Kd.R_drew HO222.out)
  have n2_ := Aside0.mk (Kd.R_drew HO225.out)
  have n3_ := Aside0.mk (Kd.R_drew HO228.out)
  have n4_ := Aside0.mk (Kd.R_drew HO231.out)
  have n5_ := Aside0.mk (Kd.S_drew HO237.out)
  have n6_ := Aside0.mk (Kd.S_drew HO240.out)
  have n7_ := Aside0.mk (blk_drew BK214.out)
  have n8_ := Aside0.mk (blk_drew BK215.out)
  have n9_ := Aside0.mk (blk_drew BK232.out)
  have n10_ := Aside0.mk (blk_drew BK241.out)
  have n11_ := Aside0.mk (below_drew1 HB.out)
  clear HO219
  clear HO222
  clear HO225
  clear HO228
  clear HO231
  clear HO237
  clear HO240
  clear BK214
  clear BK215
  clear BK232
  clear BK241
  clear HB
  have HO219 := n0_
  have HO222 := n1_
  have HO225 := n2_
  have HO228 := n3_
  have HO231 := n4_
  have HO237 := n5_
  have HO240 := n6_
  have BK214 := n7_
  have BK215 := n8_
  have BK232 := n9_
  have BK241 := n10_
  have HB := n11_
  clear n0_ n1_ n2_ n3_ n4_ n5_ n6_ n7_ n8_ n9_ n10_ n11_
  refine start_ (n := 11) (S := fun w' => w'.cell? ⟨gb241, 0, none⟩ = some (.int .i64 t233) ∧ w'.cell? ⟨gb241, 1, none⟩ = some (.int .i64 t234) ∧ w'.cell? ⟨gb241, 2, none⟩ = some (.slice Ao44 t235.length co44) ∧ w'.cell? ⟨gb241, 3, none⟩ = some (.slice Ao45 t238.length co45)) (ds := []) #[false, false, false, false, false, false, false, false, false, false, false] (by kernel_rfl) rfl rfl ⟨(blk_cell BK241.out 0).trans rfl, (blk_cell BK241.out 1).trans rfl, (blk_cell BK241.out 2).trans rfl, (blk_cell BK241.out 3).trans rfl⟩ (fun hHeld => ?_); refine with_tabW proofmarklaw30_ReportFirst.tab4 proofmarklaw30_ReportFirst.bits4 (fun HT_ HW_ => ?_)
  generalize w46.drew = w47 at HO219 HO222 HO225 HO228 HO231 HO237 HO240 BK214 BK215 BK232 BK241 HB hHeld ⊢
  refine pure_ (i := 0) (N := some 22) (v := ?_) (a' := ?_) #[true, false, false, false, false, false, false, false, false, false, false] rfl rfl (any_of HT_.out (by kernel_rfl)) (fun _ _ _ h => h) (Or.inl ⟨by rfl, ?_⟩) ?_ ?_
  rotate_left
  · intro w'
    go_simp
    with_reducible rfl
  rotate_left
  · simp only [Act.put, List.setIfInBounds_toArray, List.set_cons_zero, List.set_cons_succ, i64_w, i32_w]
    rfl
  refine pure_ (i := 2) (N := some 24) (v := ?_) (a' := ?_) #[true, false, true, false, false, false, false, false, false, false, false] rfl rfl (any_of HT_.out (by kernel_rfl)) (fun _ _ _ h => h) (Or.inl ⟨by rfl, ?_⟩) ?_ ?_
  rotate_left
  · intro w'
    go_simp
    with_reducible rfl
  rotate_left
  · simp only [Act.put, List.setIfInBounds_toArray, List.set_cons_zero, List.set_cons_succ, i64_w, i32_w]
    rfl
  refine pure_ (i := 4) (N := some 26) (v := ?_) (a' := ?_) #[true, false, true, false, true, false, false, false, false, false, false] rfl rfl (any_of HT_.out (by kernel_rfl)) (fun _ _ _ h => h) (Or.inl ⟨by rfl, ?_⟩) ?_ ?_
  rotate_left
  · intro w'
    go_simp
    with_reducible rfl
  rotate_left
  · simp only [Act.put, List.setIfInBounds_toArray, List.set_cons_zero, List.set_cons_succ, i64_w, i32_w]
    rfl
  refine take_ (i := 1) (N := some 23) (v := ?_) (a' := ?_) #[true, true, true, false, true, false, false, false, false, false, false] rfl rfl (take_ofW HT_.out HW_.out (by kernel_rfl)) (fun _ _ _ h => h) (Or.inl ⟨by rfl, ?_⟩) hHeld ?_ ?_
  rotate_left
  · rintro w' ⟨s0, s1, s2, s3⟩
    go_simp
    with_reducible rfl
  rotate_left
  · simp only [Act.put, List.setIfInBounds_toArray, List.set_cons_zero, List.set_cons_succ, i64_w, i32_w]
    rfl
  refine take_ (i := 3) (N := some 25) (v := ?_) (a' := ?_) #[true, true, true, true, true, false, false, false, false, false, false] rfl rfl (take_ofW HT_.out HW_.out (by kernel_rfl)) (fun _ _ _ h => h) (Or.inl ⟨by rfl, ?_⟩) hHeld ?_ ?_
  rotate_left
  · rintro w' ⟨s0, s1, s2, s3⟩
    go_simp
    with_reducible rfl
  rotate_left
  · simp only [Act.put, List.setIfInBounds_toArray, List.set_cons_zero, List.set_cons_succ, i64_w, i32_w]
    rfl
  refine take_ (i := 5) (N := some 27) (v := ?_) (a' := ?_) #[true, true, true, true, true, true, false, false, false, false, false] rfl rfl (take_ofW HT_.out HW_.out (by kernel_rfl)) (fun _ _ _ h => h) (Or.inl ⟨by rfl, ?_⟩) hHeld ?_ ?_
  rotate_left
  · rintro w' ⟨s0, s1, s2, s3⟩
    go_simp
    with_reducible rfl
  rotate_left
  · simp only [Act.put, List.setIfInBounds_toArray, List.set_cons_zero, List.set_cons_succ, i64_w, i32_w]
    rfl
  refine pure_ (i := 6) (N := some 28) (v := ?_) (a' := ?_) #[true, true, true, true, true, true, true, false, false, false, false] rfl rfl (any_of HT_.out (by kernel_rfl)) (fun _ _ _ h => h) (Or.inl ⟨by rfl, ?_⟩) ?_ ?_
  rotate_left
  · intro w'
    go_simp
    with_reducible rfl
  rotate_left
  · simp only [Act.put, List.setIfInBounds_toArray, List.set_cons_zero, List.set_cons_succ, i64_w, i32_w]
    rfl
  refine join_ (σ := Value × Nat) 1 #[true, true, true, true, true, true, true, true, true, true, false] (fun s_ => [(29, s_.1), (10, .pointer (some ⟨s_.2, 0, none⟩)), (30, .agg #[.int .i64 t233, .int .i64 t234, .slice none 0 0, s_.1])]) (fun s_ w' => (w'.cell? ⟨gb241, 0, none⟩ = some (.int .i64 t233) ∧ w'.cell? ⟨gb241, 1, none⟩ = some (.int .i64 t234) ∧ w'.cell? ⟨gb241, 2, none⟩ = some (.slice Ao44 t235.length co44) ∧ w'.cell? ⟨gb241, 3, none⟩ = some (.slice Ao45 t238.length co45)) ∧ (Kd.R k96 96 w' w.heap.size (fun _ => True) (.slice Ao29 t217.length co29) t217) ∧ (Kd.R k111 111 w' w.heap.size (fun k_ => some k_ ≠ (.slice Ao36 t229.length co36 : Value).ownBlock) (.slice Ao33 t220.length co33) t220) ∧ (Kd.R k94 94 w' w.heap.size (fun _ => True) (.slice Ao34 t223.length co34) t223) ∧ (Kd.R k73 73 w' w.heap.size (fun _ => True) (.slice Ao35 t226.length co35) t226) ∧ (Kd.R k111 111 w' w.heap.size (fun k_ => some k_ ≠ (.slice Ao33 t220.length co33 : Value).ownBlock) (.slice Ao36 t229.length co36) t229) ∧ (Kd.S (Kd.slice 3 (Kd.int .i64)) 55 w' w.heap.size (fun k_ => some k_ ≠ (.slice Ao45 t238.length co45 : Value).ownBlock ∧ some k_ ≠ (s_.1 : Value).ownBlock) (.slice Ao44 t235.length co44) t235) ∧ (Kd.S (Kd.slice 3 (Kd.int .i64)) 55 w' w.heap.size (fun k_ => some k_ ≠ (.slice Ao44 t235.length co44 : Value).ownBlock ∧ some k_ ≠ (s_.1 : Value).ownBlock) (.slice Ao45 t238.length co45) t238) ∧ (Kd.S (Kd.slice 3 (Kd.int .i64)) 55 w' w.heap.size (fun k_ => some k_ ≠ (.slice Ao44 t235.length co44 : Value).ownBlock ∧ some k_ ≠ (.slice Ao45 t238.length co45 : Value).ownBlock) s_.1 y242) ∧ (w'.heap[gb214]? = some (.cells #[.slice A0_0 l0_0.length c0_0, .slice A0_1 l0_1.length c0_1, .slice A0_2 l0_2.length c0_2, .slice A0_3 l0_3.length c0_3, .slice A0_4 l0_4.length c0_4] 27 (0, 0))) ∧ (w'.heap[gb215]? = some (.cells #[.int .i64 a1_0, .int .i64 a1_1, .slice A1_2 l1_2.length c1_2, .slice A1_3 l1_3.length c1_3] 30 (0, 0))) ∧ (w'.heap[gb232]? = some (.cells #[.slice Ao29 t217.length co29, .slice Ao33 t220.length co33, .slice Ao34 t223.length co34, .slice Ao35 t226.length co35, .slice Ao36 t229.length co36] 27 (0, 0))) ∧ (w'.heap[gb241]? = some (.cells #[.int .i64 t233, .int .i64 t234, .slice Ao44 t235.length co44, .slice Ao45 t238.length co45] 30 (0, 0))) ∧ (w'.heap[s_.2]? = some (.cells #[.int .i64 0, .int .i64 0, .slice none 0 0, .slice none 0 0] 30 (0, 0))) ∧ (w.heap.size ≤ s_.2) ∧ (w.heap.size ≤ s_.2) ∧ (gb214 ≠ s_.2) ∧ (s_.2 ≠ gb214) ∧ (gb215 ≠ s_.2) ∧ (s_.2 ≠ gb215) ∧ (gb232 ≠ s_.2) ∧ (s_.2 ≠ gb232) ∧ (gb241 ≠ s_.2) ∧ (s_.2 ≠ gb241) ∧ (Below w.heap.size w w')) ?_ ?_
  rotate_left
  · intro hCont
    refine two_ (i := 7) (j := 9) (Ni := some 29) (Nj := some 10) #[true, true, true, true, true, true, true, true, false, false, false] #[true, true, true, true, true, true, true, false, false, true, false] rfl rfl rfl rfl (two_of HT_.out (by kernel_rfl)) (by decide) (by decide) (fun K hK => ?_) (fun K hK => ?_)
    · skip
      refine Kd.S_make_step (Kd.slice 3 (Kd.int .i64)) _ 55 (by rfl) (N := 29) rfl 28 _ _ rfl (t238.length : Int) rfl rfl Tryd.underlying28 (.slice none 0 0) 24 info55 rfl (by decide) (by omega) [] (ok := fun _ => True) (okp := fun _ => True) ⟨_, rfl, Kd.R_nil _ _ _ _ _⟩ (fun _ hk => hk) trivial (of_decide_eq_true (by first | (with_reducible assumption) | assumption)) (Nat.le_trans (Nat.mul_le_mul_right _ (of_decide_eq_true (by first | (with_reducible assumption) | assumption) : (t238.length : Int).toNat ≤ 11728124029610)) (by omega)) (Below.refl _ _) (Nat.le_refl _) ?_
      intro v243 w48 ho49 hb hg_ hnew_
      clear hg_ hnew_
      (first | rw [← Ny242.out] at ho49 | (simp only [Int.reduceToNat] at ho49; rw [← Ny242.out] at ho49))
      have n0_ := Aside0.mk (Kd.R_below (by (with_reducible repeat (first | apply Kd.R_alloc | apply Kd.R_drewN | apply Kd.R_drew)); exact HO219.out) hb)
      have n1_ := Aside0.mk (Kd.R_below (by (with_reducible repeat (first | apply Kd.R_alloc | apply Kd.R_drewN | apply Kd.R_drew)); exact HO222.out) hb)
      have n2_ := Aside0.mk (Kd.R_below (by (with_reducible repeat (first | apply Kd.R_alloc | apply Kd.R_drewN | apply Kd.R_drew)); exact HO225.out) hb)
      have n3_ := Aside0.mk (Kd.R_below (by (with_reducible repeat (first | apply Kd.R_alloc | apply Kd.R_drewN | apply Kd.R_drew)); exact HO228.out) hb)
      have n4_ := Aside0.mk (Kd.R_below (by (with_reducible repeat (first | apply Kd.R_alloc | apply Kd.R_drewN | apply Kd.R_drew)); exact HO231.out) hb)
      have n5_ := Aside0.mk (Kd.S_elder' (by (with_reducible repeat (first | apply Kd.S_alloc | apply Kd.S_drewN | apply Kd.S_drew)); exact HO237.out) (Kd.S_base ho49) hb)
      have n6_ := Aside0.mk (Kd.S_elder' (by (with_reducible repeat (first | apply Kd.S_alloc | apply Kd.S_drewN | apply Kd.S_drew)); exact HO240.out) (Kd.S_base ho49) hb)
      have n7_ := Aside0.mk (Kd.S_lower (Kd.S_new' (Kd.S_new' ho49 (Kd.S_lt (by (with_reducible repeat (first | apply Kd.S_alloc | apply Kd.S_drewN | apply Kd.S_drew)); exact HO237.out))) (Kd.S_lt (by (with_reducible repeat (first | apply Kd.S_alloc | apply Kd.S_drewN | apply Kd.S_drew)); exact HO240.out))) (below_size (by repeat (first | (with_reducible first | exact HB.out | apply below_alloc | apply pw_below_drewN | apply below_drew1 | refine below_set ?_ GE214.out | refine below_set ?_ GE215.out | refine below_set ?_ GE232.out | refine below_set ?_ GE241.out) | exact HB.out))))
      have n8_ := Aside0.mk (blk_below (g := gb214) (o := .cells #[.slice A0_0 l0_0.length c0_0, .slice A0_1 l0_1.length c0_1, .slice A0_2 l0_2.length c0_2, .slice A0_3 l0_3.length c0_3, .slice A0_4 l0_4.length c0_4] 27 (0, 0)) (by (with_reducible repeat (first | refine blk_drewN ?_ _ | refine blk_drew ?_ | refine blk_alloc ?_ _)); exact BK214.out) hb)
      have n9_ := Aside0.mk (blk_below (g := gb215) (o := .cells #[.int .i64 a1_0, .int .i64 a1_1, .slice A1_2 l1_2.length c1_2, .slice A1_3 l1_3.length c1_3] 30 (0, 0)) (by (with_reducible repeat (first | refine blk_drewN ?_ _ | refine blk_drew ?_ | refine blk_alloc ?_ _)); exact BK215.out) hb)
      have n10_ := Aside0.mk (blk_below (g := gb232) (o := .cells #[.slice Ao29 t217.length co29, .slice Ao33 t220.length co33, .slice Ao34 t223.length co34, .slice Ao35 t226.length co35, .slice Ao36 t229.length co36] 27 (0, 0)) (by (with_reducible repeat (first | refine blk_drewN ?_ _ | refine blk_drew ?_ | refine blk_alloc ?_ _)); exact BK232.out) hb)
      have n11_ := Aside0.mk (blk_below (g := gb241) (o := .cells #[.int .i64 t233, .int .i64 t234, .slice Ao44 t235.length co44, .slice Ao45 t238.length co45] 30 (0, 0)) (by (with_reducible repeat (first | refine blk_drewN ?_ _ | refine blk_drew ?_ | refine blk_alloc ?_ _)); exact BK241.out) hb)
      have n12_ := Aside0.mk (below_step (by repeat (first | (with_reducible first | exact HB.out | apply below_alloc | apply pw_below_drewN | apply below_drew1 | refine below_set ?_ GE214.out | refine below_set ?_ GE215.out | refine below_set ?_ GE232.out | refine below_set ?_ GE241.out) | exact HB.out)) hb)
      clear HO219
      clear HO222
      clear HO225
      clear HO228
      clear HO231
      clear HO237
      clear HO240
      clear BK214
      clear BK215
      clear BK232
      clear BK241
      clear HB
      have HO219 := n0_
      have HO222 := n1_
      have HO225 := n2_
      have HO228 := n3_
      have HO231 := n4_
      have HO237 := n5_
      have HO240 := n6_
      have HO244 := n7_
      have BK214 := n8_
      have BK215 := n9_
      have BK232 := n10_
      have BK241 := n11_
      have HB := n12_
      clear n0_ n1_ n2_ n3_ n4_ n5_ n6_ n7_ n8_ n9_ n10_ n11_ n12_
      clear hb ho49
      obtain ⟨Ao50, co50, eo50⟩ := Kd.S_slice HO244.out
      (first | subst eo50 | (injection eo50 with f1_ f2_ f3_; have f4_ := f1_.symm; have f5_ := f3_.symm; clear f1_ f2_ f3_; subst f4_; subst f5_))
      refine hK.out _ _ ⟨(blk_cell BK241.out 0).trans rfl, (blk_cell BK241.out 1).trans rfl, (blk_cell BK241.out 2).trans rfl, (blk_cell BK241.out 3).trans rfl⟩ (fun hHeld => ?_)
      clear hK K
      refine norm_ (a' := ?_) ?_ ?_
      rotate_left
      · show Act.put _ (some 29) _ = _
        simp only [Act.put, List.setIfInBounds_toArray, List.set_cons_zero, List.set_cons_succ, i64_w, i32_w]
        rfl
      refine pure_ (i := 8) (N := some 30) (v := ?_) (a' := ?_) #[true, true, true, true, true, true, true, true, true, false, false] rfl rfl (any_of HT_.out (by kernel_rfl)) (fun _ _ _ h => h) (Or.inl ⟨by rfl, ?_⟩) ?_ ?_
      rotate_left
      · intro w'
        go_simp
        with_reducible rfl
      rotate_left
      · simp only [Act.put, List.setIfInBounds_toArray, List.set_cons_zero, List.set_cons_succ, i64_w, i32_w]
        rfl
      refine one_ (i := 9) (N := some 10) #[true, true, true, true, true, true, true, true, true, true, false] rfl rfl (one_of HT_.out (by kernel_rfl)) (by decide) (fun K hK => ?_)
      refine box_step ?hg (N := 10) ?hd (cs := #[.int .i64 0, .int .i64 0, .slice none 0 0, .slice none 0 0]) (t := 30) ?hr ?_; (case hd => rfl); (case hg => rfl); (case hr => first | (go_simp; done) | (go_simp; rfl))
      intro gb245 hg w51 hbox hb
      have n0_ := Aside0.mk (Kd.R_below (by (with_reducible repeat (first | apply Kd.R_alloc | apply Kd.R_drewN | apply Kd.R_drew)); exact HO219.out) hb)
      have n1_ := Aside0.mk (Kd.R_below (by (with_reducible repeat (first | apply Kd.R_alloc | apply Kd.R_drewN | apply Kd.R_drew)); exact HO222.out) hb)
      have n2_ := Aside0.mk (Kd.R_below (by (with_reducible repeat (first | apply Kd.R_alloc | apply Kd.R_drewN | apply Kd.R_drew)); exact HO225.out) hb)
      have n3_ := Aside0.mk (Kd.R_below (by (with_reducible repeat (first | apply Kd.R_alloc | apply Kd.R_drewN | apply Kd.R_drew)); exact HO228.out) hb)
      have n4_ := Aside0.mk (Kd.R_below (by (with_reducible repeat (first | apply Kd.R_alloc | apply Kd.R_drewN | apply Kd.R_drew)); exact HO231.out) hb)
      have n5_ := Aside0.mk (Kd.S_below (by (with_reducible repeat (first | apply Kd.S_alloc | apply Kd.S_drewN | apply Kd.S_drew)); exact HO237.out) hb)
      have n6_ := Aside0.mk (Kd.S_below (by (with_reducible repeat (first | apply Kd.S_alloc | apply Kd.S_drewN | apply Kd.S_drew)); exact HO240.out) hb)
      have n7_ := Aside0.mk (Kd.S_below (by (with_reducible repeat (first | apply Kd.S_alloc | apply Kd.S_drewN | apply Kd.S_drew)); exact HO244.out) hb)
      have n8_ := Aside0.mk (blk_below (g := gb214) (o := .cells #[.slice A0_0 l0_0.length c0_0, .slice A0_1 l0_1.length c0_1, .slice A0_2 l0_2.length c0_2, .slice A0_3 l0_3.length c0_3, .slice A0_4 l0_4.length c0_4] 27 (0, 0)) (by (with_reducible repeat (first | refine blk_drewN ?_ _ | refine blk_drew ?_ | refine blk_alloc ?_ _)); exact BK214.out) hb)
      have n9_ := Aside0.mk (blk_below (g := gb215) (o := .cells #[.int .i64 a1_0, .int .i64 a1_1, .slice A1_2 l1_2.length c1_2, .slice A1_3 l1_3.length c1_3] 30 (0, 0)) (by (with_reducible repeat (first | refine blk_drewN ?_ _ | refine blk_drew ?_ | refine blk_alloc ?_ _)); exact BK215.out) hb)
      have n10_ := Aside0.mk (blk_below (g := gb232) (o := .cells #[.slice Ao29 t217.length co29, .slice Ao33 t220.length co33, .slice Ao34 t223.length co34, .slice Ao35 t226.length co35, .slice Ao36 t229.length co36] 27 (0, 0)) (by (with_reducible repeat (first | refine blk_drewN ?_ _ | refine blk_drew ?_ | refine blk_alloc ?_ _)); exact BK232.out) hb)
      have n11_ := Aside0.mk (blk_below (g := gb241) (o := .cells #[.int .i64 t233, .int .i64 t234, .slice Ao44 t235.length co44, .slice Ao45 t238.length co45] 30 (0, 0)) (by (with_reducible repeat (first | refine blk_drewN ?_ _ | refine blk_drew ?_ | refine blk_alloc ?_ _)); exact BK241.out) hb)
      have n12_ := Aside0.mk (below_step (by repeat (first | (with_reducible first | exact HB.out | apply below_alloc | apply pw_below_drewN | apply below_drew1 | refine below_set ?_ GE214.out | refine below_set ?_ GE215.out | refine below_set ?_ GE232.out | refine below_set ?_ GE241.out) | exact HB.out)) hb)
      have n13_ := Aside0.mk (hbox)
      have n14_ := Aside0.mk ((by rw [hg]; exact (below_size (by repeat (first | (with_reducible first | exact HB.out | apply below_alloc | apply pw_below_drewN | apply below_drew1 | refine below_set ?_ GE214.out | refine below_set ?_ GE215.out | refine below_set ?_ GE232.out | refine below_set ?_ GE241.out) | exact HB.out))) : w.heap.size ≤ gb245))
      have n15_ := Aside0.mk ((by rw [hg]; exact (below_size (by repeat (first | (with_reducible first | exact HB.out | apply below_alloc | apply pw_below_drewN | apply below_drew1 | refine below_set ?_ GE214.out | refine below_set ?_ GE215.out | refine below_set ?_ GE232.out | refine below_set ?_ GE241.out) | exact HB.out))) : w.heap.size ≤ gb245))
      have n16_ := Aside0.mk ((by rw [hg]; exact Nat.ne_of_lt (blk_lt (g := gb214) (o := .cells #[.slice A0_0 l0_0.length c0_0, .slice A0_1 l0_1.length c0_1, .slice A0_2 l0_2.length c0_2, .slice A0_3 l0_3.length c0_3, .slice A0_4 l0_4.length c0_4] 27 (0, 0)) (by (with_reducible repeat (first | refine blk_drewN ?_ _ | refine blk_drew ?_ | refine blk_alloc ?_ _)); exact BK214.out)) : gb214 ≠ gb245))
      have n17_ := Aside0.mk ((by rw [hg]; exact Nat.ne_of_gt (blk_lt (g := gb214) (o := .cells #[.slice A0_0 l0_0.length c0_0, .slice A0_1 l0_1.length c0_1, .slice A0_2 l0_2.length c0_2, .slice A0_3 l0_3.length c0_3, .slice A0_4 l0_4.length c0_4] 27 (0, 0)) (by (with_reducible repeat (first | refine blk_drewN ?_ _ | refine blk_drew ?_ | refine blk_alloc ?_ _)); exact BK214.out)) : gb245 ≠ gb214))
      have n18_ := Aside0.mk ((by rw [hg]; exact Nat.ne_of_lt (blk_lt (g := gb215) (o := .cells #[.int .i64 a1_0, .int .i64 a1_1, .slice A1_2 l1_2.length c1_2, .slice A1_3 l1_3.length c1_3] 30 (0, 0)) (by (with_reducible repeat (first | refine blk_drewN ?_ _ | refine blk_drew ?_ | refine blk_alloc ?_ _)); exact BK215.out)) : gb215 ≠ gb245))
      have n19_ := Aside0.mk ((by rw [hg]; exact Nat.ne_of_gt (blk_lt (g := gb215) (o := .cells #[.int .i64 a1_0, .int .i64 a1_1, .slice A1_2 l1_2.length c1_2, .slice A1_3 l1_3.length c1_3] 30 (0, 0)) (by (with_reducible repeat (first | refine blk_drewN ?_ _ | refine blk_drew ?_ | refine blk_alloc ?_ _)); exact BK215.out)) : gb245 ≠ gb215))
      have n20_ := Aside0.mk ((by rw [hg]; exact Nat.ne_of_lt (blk_lt (g := gb232) (o := .cells #[.slice Ao29 t217.length co29, .slice Ao33 t220.length co33, .slice Ao34 t223.length co34, .slice Ao35 t226.length co35, .slice Ao36 t229.length co36] 27 (0, 0)) (by (with_reducible repeat (first | refine blk_drewN ?_ _ | refine blk_drew ?_ | refine blk_alloc ?_ _)); exact BK232.out)) : gb232 ≠ gb245))
      have n21_ := Aside0.mk ((by rw [hg]; exact Nat.ne_of_gt (blk_lt (g := gb232) (o := .cells #[.slice Ao29 t217.length co29, .slice Ao33 t220.length co33, .slice Ao34 t223.length co34, .slice Ao35 t226.length co35, .slice Ao36 t229.length co36] 27 (0, 0)) (by (with_reducible repeat (first | refine blk_drewN ?_ _ | refine blk_drew ?_ | refine blk_alloc ?_ _)); exact BK232.out)) : gb245 ≠ gb232))
      have n22_ := Aside0.mk ((by rw [hg]; exact Nat.ne_of_lt (blk_lt (g := gb241) (o := .cells #[.int .i64 t233, .int .i64 t234, .slice Ao44 t235.length co44, .slice Ao45 t238.length co45] 30 (0, 0)) (by (with_reducible repeat (first | refine blk_drewN ?_ _ | refine blk_drew ?_ | refine blk_alloc ?_ _)); exact BK241.out)) : gb241 ≠ gb245))
      have n23_ := Aside0.mk ((by rw [hg]; exact Nat.ne_of_gt (blk_lt (g := gb241) (o := .cells #[.int .i64 t233, .int .i64 t234, .slice Ao44 t235.length co44, .slice Ao45 t238.length co45] 30 (0, 0)) (by (with_reducible repeat (first | refine blk_drewN ?_ _ | refine blk_drew ?_ | refine blk_alloc ?_ _)); exact BK241.out)) : gb245 ≠ gb241))
      clear HO219
      clear HO222
      clear HO225
      clear HO228
      clear HO231
      clear HO237
      clear HO240
      clear HO244
      clear BK214
      clear BK215
      clear BK232
      clear BK241
      clear HB
      have HO219 := n0_
      have HO222 := n1_
      have HO225 := n2_
      have HO228 := n3_
      have HO231 := n4_
      have HO237 := n5_
      have HO240 := n6_
      have HO244 := n7_
      have BK214 := n8_
      have BK215 := n9_
      have BK232 := n10_
      have BK241 := n11_
      have HB := n12_
      have BK245 := n13_
      have GW245 := n14_
      have GE245 := n15_
      have NB214_245 := n16_
      have NB245_214 := n17_
      have NB215_245 := n18_
      have NB245_215 := n19_
      have NB232_245 := n20_
      have NB245_232 := n21_
      have NB241_245 := n22_
      have NB245_241 := n23_
      clear n0_ n1_ n2_ n3_ n4_ n5_ n6_ n7_ n8_ n9_ n10_ n11_ n12_ n13_ n14_ n15_ n16_ n17_ n18_ n19_ n20_ n21_ n22_ n23_
      clear hb hbox hg
      refine hK.out _ _ ⟨(blk_cell BK241.out 0).trans rfl, (blk_cell BK241.out 1).trans rfl, (blk_cell BK241.out 2).trans rfl, (blk_cell BK241.out 3).trans rfl⟩ (fun hHeld => ?_)
      clear hK K
      refine norm_ (a' := ?_) ?_ ?_
      rotate_left
      · show Act.put _ (some 10) _ = _
        simp only [Act.put, List.setIfInBounds_toArray, List.set_cons_zero, List.set_cons_succ, i64_w, i32_w]
        rfl
      exact norm_ (by simp only [putAll, Act.put, List.setIfInBounds_toArray, List.set_cons_zero, List.set_cons_succ]) (hCont (.slice Ao50 y242.length co50, gb245) _ ⟨hHeld, (by (with_reducible repeat (first | apply Kd.R_alloc | apply Kd.R_drewN | apply Kd.R_drew)); exact HO219.out), (by (with_reducible repeat (first | apply Kd.R_alloc | apply Kd.R_drewN | apply Kd.R_drew)); exact HO222.out), (by (with_reducible repeat (first | apply Kd.R_alloc | apply Kd.R_drewN | apply Kd.R_drew)); exact HO225.out), (by (with_reducible repeat (first | apply Kd.R_alloc | apply Kd.R_drewN | apply Kd.R_drew)); exact HO228.out), (by (with_reducible repeat (first | apply Kd.R_alloc | apply Kd.R_drewN | apply Kd.R_drew)); exact HO231.out), (by (with_reducible repeat (first | apply Kd.S_alloc | apply Kd.S_drewN | apply Kd.S_drew)); exact HO237.out), (by (with_reducible repeat (first | apply Kd.S_alloc | apply Kd.S_drewN | apply Kd.S_drew)); exact HO240.out), (by (with_reducible repeat (first | apply Kd.S_alloc | apply Kd.S_drewN | apply Kd.S_drew)); exact Kd.S_mono HO244.out (fun _ hk => ⟨hk.1.2, hk.2⟩)), (by (with_reducible repeat (first | refine blk_drewN ?_ _ | refine blk_drew ?_ | refine blk_alloc ?_ _)); exact BK214.out), (by (with_reducible repeat (first | refine blk_drewN ?_ _ | refine blk_drew ?_ | refine blk_alloc ?_ _)); exact BK215.out), (by (with_reducible repeat (first | refine blk_drewN ?_ _ | refine blk_drew ?_ | refine blk_alloc ?_ _)); exact BK232.out), (by (with_reducible repeat (first | refine blk_drewN ?_ _ | refine blk_drew ?_ | refine blk_alloc ?_ _)); exact BK241.out), (by (with_reducible repeat (first | refine blk_drewN ?_ _ | refine blk_drew ?_ | refine blk_alloc ?_ _)); exact BK245.out), GW245.out, GE245.out, NB214_245.out, NB245_214.out, NB215_245.out, NB245_215.out, NB232_245.out, NB245_232.out, NB241_245.out, NB245_241.out, (by repeat (first | (with_reducible first | exact HB.out | apply below_alloc | apply pw_below_drewN | apply below_drew1 | refine below_set ?_ GE214.out | refine below_set ?_ GE215.out | refine below_set ?_ GE232.out | refine below_set ?_ GE241.out | refine below_set ?_ GE245.out) | exact HB.out))⟩)
    · skip
      refine box_step ?hg (N := 10) ?hd (cs := #[.int .i64 0, .int .i64 0, .slice none 0 0, .slice none 0 0]) (t := 30) ?hr ?_; (case hd => rfl); (case hg => rfl); (case hr => first | (go_simp; done) | (go_simp; rfl))
      intro gb245 hg w48 hbox hb
      have n0_ := Aside0.mk (Kd.R_below (by (with_reducible repeat (first | apply Kd.R_alloc | apply Kd.R_drewN | apply Kd.R_drew)); exact HO219.out) hb)
      have n1_ := Aside0.mk (Kd.R_below (by (with_reducible repeat (first | apply Kd.R_alloc | apply Kd.R_drewN | apply Kd.R_drew)); exact HO222.out) hb)
      have n2_ := Aside0.mk (Kd.R_below (by (with_reducible repeat (first | apply Kd.R_alloc | apply Kd.R_drewN | apply Kd.R_drew)); exact HO225.out) hb)
      have n3_ := Aside0.mk (Kd.R_below (by (with_reducible repeat (first | apply Kd.R_alloc | apply Kd.R_drewN | apply Kd.R_drew)); exact HO228.out) hb)
      have n4_ := Aside0.mk (Kd.R_below (by (with_reducible repeat (first | apply Kd.R_alloc | apply Kd.R_drewN | apply Kd.R_drew)); exact HO231.out) hb)
      have n5_ := Aside0.mk (Kd.S_below (by (with_reducible repeat (first | apply Kd.S_alloc | apply Kd.S_drewN | apply Kd.S_drew)); exact HO237.out) hb)
      have n6_ := Aside0.mk (Kd.S_below (by (with_reducible repeat (first | apply Kd.S_alloc | apply Kd.S_drewN | apply Kd.S_drew)); exact HO240.out) hb)
      have n7_ := Aside0.mk (blk_below (g := gb214) (o := .cells #[.slice A0_0 l0_0.length c0_0, .slice A0_1 l0_1.length c0_1, .slice A0_2 l0_2.length c0_2, .slice A0_3 l0_3.length c0_3, .slice A0_4 l0_4.length c0_4] 27 (0, 0)) (by (with_reducible repeat (first | refine blk_drewN ?_ _ | refine blk_drew ?_ | refine blk_alloc ?_ _)); exact BK214.out) hb)
      have n8_ := Aside0.mk (blk_below (g := gb215) (o := .cells #[.int .i64 a1_0, .int .i64 a1_1, .slice A1_2 l1_2.length c1_2, .slice A1_3 l1_3.length c1_3] 30 (0, 0)) (by (with_reducible repeat (first | refine blk_drewN ?_ _ | refine blk_drew ?_ | refine blk_alloc ?_ _)); exact BK215.out) hb)
      have n9_ := Aside0.mk (blk_below (g := gb232) (o := .cells #[.slice Ao29 t217.length co29, .slice Ao33 t220.length co33, .slice Ao34 t223.length co34, .slice Ao35 t226.length co35, .slice Ao36 t229.length co36] 27 (0, 0)) (by (with_reducible repeat (first | refine blk_drewN ?_ _ | refine blk_drew ?_ | refine blk_alloc ?_ _)); exact BK232.out) hb)
      have n10_ := Aside0.mk (blk_below (g := gb241) (o := .cells #[.int .i64 t233, .int .i64 t234, .slice Ao44 t235.length co44, .slice Ao45 t238.length co45] 30 (0, 0)) (by (with_reducible repeat (first | refine blk_drewN ?_ _ | refine blk_drew ?_ | refine blk_alloc ?_ _)); exact BK241.out) hb)
      have n11_ := Aside0.mk (below_step (by repeat (first | (with_reducible first | exact HB.out | apply below_alloc | apply pw_below_drewN | apply below_drew1 | refine below_set ?_ GE214.out | refine below_set ?_ GE215.out | refine below_set ?_ GE232.out | refine below_set ?_ GE241.out) | exact HB.out)) hb)
      have n12_ := Aside0.mk (hbox)
      have n13_ := Aside0.mk ((by rw [hg]; exact (below_size (by repeat (first | (with_reducible first | exact HB.out | apply below_alloc | apply pw_below_drewN | apply below_drew1 | refine below_set ?_ GE214.out | refine below_set ?_ GE215.out | refine below_set ?_ GE232.out | refine below_set ?_ GE241.out) | exact HB.out))) : w.heap.size ≤ gb245))
      have n14_ := Aside0.mk ((by rw [hg]; exact (below_size (by repeat (first | (with_reducible first | exact HB.out | apply below_alloc | apply pw_below_drewN | apply below_drew1 | refine below_set ?_ GE214.out | refine below_set ?_ GE215.out | refine below_set ?_ GE232.out | refine below_set ?_ GE241.out) | exact HB.out))) : w.heap.size ≤ gb245))
      have n15_ := Aside0.mk ((by rw [hg]; exact Nat.ne_of_lt (blk_lt (g := gb214) (o := .cells #[.slice A0_0 l0_0.length c0_0, .slice A0_1 l0_1.length c0_1, .slice A0_2 l0_2.length c0_2, .slice A0_3 l0_3.length c0_3, .slice A0_4 l0_4.length c0_4] 27 (0, 0)) (by (with_reducible repeat (first | refine blk_drewN ?_ _ | refine blk_drew ?_ | refine blk_alloc ?_ _)); exact BK214.out)) : gb214 ≠ gb245))
      have n16_ := Aside0.mk ((by rw [hg]; exact Nat.ne_of_gt (blk_lt (g := gb214) (o := .cells #[.slice A0_0 l0_0.length c0_0, .slice A0_1 l0_1.length c0_1, .slice A0_2 l0_2.length c0_2, .slice A0_3 l0_3.length c0_3, .slice A0_4 l0_4.length c0_4] 27 (0, 0)) (by (with_reducible repeat (first | refine blk_drewN ?_ _ | refine blk_drew ?_ | refine blk_alloc ?_ _)); exact BK214.out)) : gb245 ≠ gb214))
      have n17_ := Aside0.mk ((by rw [hg]; exact Nat.ne_of_lt (blk_lt (g := gb215) (o := .cells #[.int .i64 a1_0, .int .i64 a1_1, .slice A1_2 l1_2.length c1_2, .slice A1_3 l1_3.length c1_3] 30 (0, 0)) (by (with_reducible repeat (first | refine blk_drewN ?_ _ | refine blk_drew ?_ | refine blk_alloc ?_ _)); exact BK215.out)) : gb215 ≠ gb245))
      have n18_ := Aside0.mk ((by rw [hg]; exact Nat.ne_of_gt (blk_lt (g := gb215) (o := .cells #[.int .i64 a1_0, .int .i64 a1_1, .slice A1_2 l1_2.length c1_2, .slice A1_3 l1_3.length c1_3] 30 (0, 0)) (by (with_reducible repeat (first | refine blk_drewN ?_ _ | refine blk_drew ?_ | refine blk_alloc ?_ _)); exact BK215.out)) : gb245 ≠ gb215))
      have n19_ := Aside0.mk ((by rw [hg]; exact Nat.ne_of_lt (blk_lt (g := gb232) (o := .cells #[.slice Ao29 t217.length co29, .slice Ao33 t220.length co33, .slice Ao34 t223.length co34, .slice Ao35 t226.length co35, .slice Ao36 t229.length co36] 27 (0, 0)) (by (with_reducible repeat (first | refine blk_drewN ?_ _ | refine blk_drew ?_ | refine blk_alloc ?_ _)); exact BK232.out)) : gb232 ≠ gb245))
      have n20_ := Aside0.mk ((by rw [hg]; exact Nat.ne_of_gt (blk_lt (g := gb232) (o := .cells #[.slice Ao29 t217.length co29, .slice Ao33 t220.length co33, .slice Ao34 t223.length co34, .slice Ao35 t226.length co35, .slice Ao36 t229.length co36] 27 (0, 0)) (by (with_reducible repeat (first | refine blk_drewN ?_ _ | refine blk_drew ?_ | refine blk_alloc ?_ _)); exact BK232.out)) : gb245 ≠ gb232))
      have n21_ := Aside0.mk ((by rw [hg]; exact Nat.ne_of_lt (blk_lt (g := gb241) (o := .cells #[.int .i64 t233, .int .i64 t234, .slice Ao44 t235.length co44, .slice Ao45 t238.length co45] 30 (0, 0)) (by (with_reducible repeat (first | refine blk_drewN ?_ _ | refine blk_drew ?_ | refine blk_alloc ?_ _)); exact BK241.out)) : gb241 ≠ gb245))
      have n22_ := Aside0.mk ((by rw [hg]; exact Nat.ne_of_gt (blk_lt (g := gb241) (o := .cells #[.int .i64 t233, .int .i64 t234, .slice Ao44 t235.length co44, .slice Ao45 t238.length co45] 30 (0, 0)) (by (with_reducible repeat (first | refine blk_drewN ?_ _ | refine blk_drew ?_ | refine blk_alloc ?_ _)); exact BK241.out)) : gb245 ≠ gb241))
      clear HO219
      clear HO222
      clear HO225
      clear HO228
      clear HO231
      clear HO237
      clear HO240
      clear BK214
      clear BK215
      clear BK232
      clear BK241
      clear HB
      have HO219 := n0_
      have HO222 := n1_
      have HO225 := n2_
      have HO228 := n3_
      have HO231 := n4_
      have HO237 := n5_
      have HO240 := n6_
      have BK214 := n7_
      have BK215 := n8_
      have BK232 := n9_
      have BK241 := n10_
      have HB := n11_
      have BK245 := n12_
      have GW245 := n13_
      have GE245 := n14_
      have NB214_245 := n15_
      have NB245_214 := n16_
      have NB215_245 := n17_
      have NB245_215 := n18_
      have NB232_245 := n19_
      have NB245_232 := n20_
      have NB241_245 := n21_
      have NB245_241 := n22_
      clear n0_ n1_ n2_ n3_ n4_ n5_ n6_ n7_ n8_ n9_ n10_ n11_ n12_ n13_ n14_ n15_ n16_ n17_ n18_ n19_ n20_ n21_ n22_
      clear hb hbox hg
      refine hK.out _ _ ⟨(blk_cell BK241.out 0).trans rfl, (blk_cell BK241.out 1).trans rfl, (blk_cell BK241.out 2).trans rfl, (blk_cell BK241.out 3).trans rfl⟩ (fun hHeld => ?_)
      clear hK K
      refine norm_ (a' := ?_) ?_ ?_
      rotate_left
      · show Act.put _ (some 10) _ = _
        simp only [Act.put, List.setIfInBounds_toArray, List.set_cons_zero, List.set_cons_succ, i64_w, i32_w]
        rfl
      refine one_ (i := 7) (N := some 29) #[true, true, true, true, true, true, true, true, false, true, false] rfl rfl (one_of HT_.out (by kernel_rfl)) (by decide) (fun K hK => ?_)
      refine Kd.S_make_step (Kd.slice 3 (Kd.int .i64)) _ 55 (by rfl) (N := 29) rfl 28 _ _ rfl (t238.length : Int) rfl rfl Tryd.underlying28 (.slice none 0 0) 24 info55 rfl (by decide) (by omega) [] (ok := fun _ => True) (okp := fun _ => True) ⟨_, rfl, Kd.R_nil _ _ _ _ _⟩ (fun _ hk => hk) trivial (of_decide_eq_true (by first | (with_reducible assumption) | assumption)) (Nat.le_trans (Nat.mul_le_mul_right _ (of_decide_eq_true (by first | (with_reducible assumption) | assumption) : (t238.length : Int).toNat ≤ 11728124029610)) (by omega)) (Below.refl _ _) (Nat.le_refl _) ?_
      intro v243 w49 ho50 hb hg_ hnew_
      clear hg_ hnew_
      (first | rw [← Ny242.out] at ho50 | (simp only [Int.reduceToNat] at ho50; rw [← Ny242.out] at ho50))
      have n0_ := Aside0.mk (Kd.R_below (by (with_reducible repeat (first | apply Kd.R_alloc | apply Kd.R_drewN | apply Kd.R_drew)); exact HO219.out) hb)
      have n1_ := Aside0.mk (Kd.R_below (by (with_reducible repeat (first | apply Kd.R_alloc | apply Kd.R_drewN | apply Kd.R_drew)); exact HO222.out) hb)
      have n2_ := Aside0.mk (Kd.R_below (by (with_reducible repeat (first | apply Kd.R_alloc | apply Kd.R_drewN | apply Kd.R_drew)); exact HO225.out) hb)
      have n3_ := Aside0.mk (Kd.R_below (by (with_reducible repeat (first | apply Kd.R_alloc | apply Kd.R_drewN | apply Kd.R_drew)); exact HO228.out) hb)
      have n4_ := Aside0.mk (Kd.R_below (by (with_reducible repeat (first | apply Kd.R_alloc | apply Kd.R_drewN | apply Kd.R_drew)); exact HO231.out) hb)
      have n5_ := Aside0.mk (Kd.S_elder' (by (with_reducible repeat (first | apply Kd.S_alloc | apply Kd.S_drewN | apply Kd.S_drew)); exact HO237.out) (Kd.S_base ho50) hb)
      have n6_ := Aside0.mk (Kd.S_elder' (by (with_reducible repeat (first | apply Kd.S_alloc | apply Kd.S_drewN | apply Kd.S_drew)); exact HO240.out) (Kd.S_base ho50) hb)
      have n7_ := Aside0.mk (Kd.S_lower (Kd.S_new' (Kd.S_new' ho50 (Kd.S_lt (by (with_reducible repeat (first | apply Kd.S_alloc | apply Kd.S_drewN | apply Kd.S_drew)); exact HO237.out))) (Kd.S_lt (by (with_reducible repeat (first | apply Kd.S_alloc | apply Kd.S_drewN | apply Kd.S_drew)); exact HO240.out))) (below_size (by repeat (first | (with_reducible first | exact HB.out | apply below_alloc | apply pw_below_drewN | apply below_drew1 | refine below_set ?_ GE214.out | refine below_set ?_ GE215.out | refine below_set ?_ GE232.out | refine below_set ?_ GE241.out | refine below_set ?_ GE245.out) | exact HB.out))))
      have n8_ := Aside0.mk (blk_below (g := gb214) (o := .cells #[.slice A0_0 l0_0.length c0_0, .slice A0_1 l0_1.length c0_1, .slice A0_2 l0_2.length c0_2, .slice A0_3 l0_3.length c0_3, .slice A0_4 l0_4.length c0_4] 27 (0, 0)) (by (with_reducible repeat (first | refine blk_drewN ?_ _ | refine blk_drew ?_ | refine blk_alloc ?_ _)); exact BK214.out) hb)
      have n9_ := Aside0.mk (blk_below (g := gb215) (o := .cells #[.int .i64 a1_0, .int .i64 a1_1, .slice A1_2 l1_2.length c1_2, .slice A1_3 l1_3.length c1_3] 30 (0, 0)) (by (with_reducible repeat (first | refine blk_drewN ?_ _ | refine blk_drew ?_ | refine blk_alloc ?_ _)); exact BK215.out) hb)
      have n10_ := Aside0.mk (blk_below (g := gb232) (o := .cells #[.slice Ao29 t217.length co29, .slice Ao33 t220.length co33, .slice Ao34 t223.length co34, .slice Ao35 t226.length co35, .slice Ao36 t229.length co36] 27 (0, 0)) (by (with_reducible repeat (first | refine blk_drewN ?_ _ | refine blk_drew ?_ | refine blk_alloc ?_ _)); exact BK232.out) hb)
      have n11_ := Aside0.mk (blk_below (g := gb241) (o := .cells #[.int .i64 t233, .int .i64 t234, .slice Ao44 t235.length co44, .slice Ao45 t238.length co45] 30 (0, 0)) (by (with_reducible repeat (first | refine blk_drewN ?_ _ | refine blk_drew ?_ | refine blk_alloc ?_ _)); exact BK241.out) hb)
      have n12_ := Aside0.mk (blk_below (g := gb245) (o := .cells #[.int .i64 0, .int .i64 0, .slice none 0 0, .slice none 0 0] 30 (0, 0)) (by (with_reducible repeat (first | refine blk_drewN ?_ _ | refine blk_drew ?_ | refine blk_alloc ?_ _)); exact BK245.out) hb)
      have n13_ := Aside0.mk (below_step (by repeat (first | (with_reducible first | exact HB.out | apply below_alloc | apply pw_below_drewN | apply below_drew1 | refine below_set ?_ GE214.out | refine below_set ?_ GE215.out | refine below_set ?_ GE232.out | refine below_set ?_ GE241.out | refine below_set ?_ GE245.out) | exact HB.out)) hb)
      clear HO219
      clear HO222
      clear HO225
      clear HO228
      clear HO231
      clear HO237
      clear HO240
      clear BK214
      clear BK215
      clear BK232
      clear BK241
      clear BK245
      clear HB
      have HO219 := n0_
      have HO222 := n1_
      have HO225 := n2_
      have HO228 := n3_
      have HO231 := n4_
      have HO237 := n5_
      have HO240 := n6_
      have HO244 := n7_
      have BK214 := n8_
      have BK215 := n9_
      have BK232 := n10_
      have BK241 := n11_
      have BK245 := n12_
      have HB := n13_
      clear n0_ n1_ n2_ n3_ n4_ n5_ n6_ n7_ n8_ n9_ n10_ n11_ n12_ n13_
      clear hb ho50
      obtain ⟨Ao51, co51, eo51⟩ := Kd.S_slice HO244.out
      (first | subst eo51 | (injection eo51 with f1_ f2_ f3_; have f4_ := f1_.symm; have f5_ := f3_.symm; clear f1_ f2_ f3_; subst f4_; subst f5_))
      refine hK.out _ _ ⟨(blk_cell BK241.out 0).trans rfl, (blk_cell BK241.out 1).trans rfl, (blk_cell BK241.out 2).trans rfl, (blk_cell BK241.out 3).trans rfl⟩ (fun hHeld => ?_)
      clear hK K
      refine norm_ (a' := ?_) ?_ ?_
      rotate_left
      · show Act.put _ (some 29) _ = _
        simp only [Act.put, List.setIfInBounds_toArray, List.set_cons_zero, List.set_cons_succ, i64_w, i32_w]
        rfl
      refine pure_ (i := 8) (N := some 30) (v := ?_) (a' := ?_) #[true, true, true, true, true, true, true, true, true, true, false] rfl rfl (any_of HT_.out (by kernel_rfl)) (fun _ _ _ h => h) (Or.inl ⟨by rfl, ?_⟩) ?_ ?_
      rotate_left
      · intro w'
        go_simp
        with_reducible rfl
      rotate_left
      · simp only [Act.put, List.setIfInBounds_toArray, List.set_cons_zero, List.set_cons_succ, i64_w, i32_w]
        rfl
      exact norm_ (by simp only [putAll, Act.put, List.setIfInBounds_toArray, List.set_cons_zero, List.set_cons_succ]) (hCont (.slice Ao51 y242.length co51, gb245) _ ⟨hHeld, (by (with_reducible repeat (first | apply Kd.R_alloc | apply Kd.R_drewN | apply Kd.R_drew)); exact HO219.out), (by (with_reducible repeat (first | apply Kd.R_alloc | apply Kd.R_drewN | apply Kd.R_drew)); exact HO222.out), (by (with_reducible repeat (first | apply Kd.R_alloc | apply Kd.R_drewN | apply Kd.R_drew)); exact HO225.out), (by (with_reducible repeat (first | apply Kd.R_alloc | apply Kd.R_drewN | apply Kd.R_drew)); exact HO228.out), (by (with_reducible repeat (first | apply Kd.R_alloc | apply Kd.R_drewN | apply Kd.R_drew)); exact HO231.out), (by (with_reducible repeat (first | apply Kd.S_alloc | apply Kd.S_drewN | apply Kd.S_drew)); exact HO237.out), (by (with_reducible repeat (first | apply Kd.S_alloc | apply Kd.S_drewN | apply Kd.S_drew)); exact HO240.out), (by (with_reducible repeat (first | apply Kd.S_alloc | apply Kd.S_drewN | apply Kd.S_drew)); exact Kd.S_mono HO244.out (fun _ hk => ⟨hk.1.2, hk.2⟩)), (by (with_reducible repeat (first | refine blk_drewN ?_ _ | refine blk_drew ?_ | refine blk_alloc ?_ _)); exact BK214.out), (by (with_reducible repeat (first | refine blk_drewN ?_ _ | refine blk_drew ?_ | refine blk_alloc ?_ _)); exact BK215.out), (by (with_reducible repeat (first | refine blk_drewN ?_ _ | refine blk_drew ?_ | refine blk_alloc ?_ _)); exact BK232.out), (by (with_reducible repeat (first | refine blk_drewN ?_ _ | refine blk_drew ?_ | refine blk_alloc ?_ _)); exact BK241.out), (by (with_reducible repeat (first | refine blk_drewN ?_ _ | refine blk_drew ?_ | refine blk_alloc ?_ _)); exact BK245.out), GW245.out, GE245.out, NB214_245.out, NB245_214.out, NB215_245.out, NB245_215.out, NB232_245.out, NB245_232.out, NB241_245.out, NB245_241.out, (by repeat (first | (with_reducible first | exact HB.out | apply below_alloc | apply pw_below_drewN | apply below_drew1 | refine below_set ?_ GE214.out | refine below_set ?_ GE215.out | refine below_set ?_ GE232.out | refine below_set ?_ GE241.out | refine below_set ?_ GE245.out) | exact HB.out))⟩)
  rintro ⟨v243, gb245⟩ w52 ⟨hS_, h0_, h1_, h2_, h3_, h4_, h5_, h6_, h7_, h8_, h9_, h10_, h11_, h12_, h13_, h14_, h15_, h16_, h17_, h18_, h19_, h20_, h21_, h22_, h23_⟩
  have n0_ : Aside0 (Kd.R k96 96 w52 w.heap.size (fun _ => True) (.slice Ao29 t217.length co29) t217) := ⟨h0_⟩
  have n1_ : Aside0 (Kd.R k111 111 w52 w.heap.size (fun k_ => some k_ ≠ (.slice Ao36 t229.length co36 : Value).ownBlock) (.slice Ao33 t220.length co33) t220) := ⟨h1_⟩
  have n2_ : Aside0 (Kd.R k94 94 w52 w.heap.size (fun _ => True) (.slice Ao34 t223.length co34) t223) := ⟨h2_⟩
  have n3_ : Aside0 (Kd.R k73 73 w52 w.heap.size (fun _ => True) (.slice Ao35 t226.length co35) t226) := ⟨h3_⟩
  have n4_ : Aside0 (Kd.R k111 111 w52 w.heap.size (fun k_ => some k_ ≠ (.slice Ao33 t220.length co33 : Value).ownBlock) (.slice Ao36 t229.length co36) t229) := ⟨h4_⟩
  have n5_ : Aside0 (Kd.S (Kd.slice 3 (Kd.int .i64)) 55 w52 w.heap.size (fun k_ => some k_ ≠ (.slice Ao45 t238.length co45 : Value).ownBlock ∧ some k_ ≠ (v243 : Value).ownBlock) (.slice Ao44 t235.length co44) t235) := ⟨h5_⟩
  have n6_ : Aside0 (Kd.S (Kd.slice 3 (Kd.int .i64)) 55 w52 w.heap.size (fun k_ => some k_ ≠ (.slice Ao44 t235.length co44 : Value).ownBlock ∧ some k_ ≠ (v243 : Value).ownBlock) (.slice Ao45 t238.length co45) t238) := ⟨h6_⟩
  have n7_ : Aside0 (Kd.S (Kd.slice 3 (Kd.int .i64)) 55 w52 w.heap.size (fun k_ => some k_ ≠ (.slice Ao44 t235.length co44 : Value).ownBlock ∧ some k_ ≠ (.slice Ao45 t238.length co45 : Value).ownBlock) v243 y242) := ⟨h7_⟩
  have n8_ : Aside0 (w52.heap[gb214]? = some (.cells #[.slice A0_0 l0_0.length c0_0, .slice A0_1 l0_1.length c0_1, .slice A0_2 l0_2.length c0_2, .slice A0_3 l0_3.length c0_3, .slice A0_4 l0_4.length c0_4] 27 (0, 0))) := ⟨h8_⟩
  have n9_ : Aside0 (w52.heap[gb215]? = some (.cells #[.int .i64 a1_0, .int .i64 a1_1, .slice A1_2 l1_2.length c1_2, .slice A1_3 l1_3.length c1_3] 30 (0, 0))) := ⟨h9_⟩
  have n10_ : Aside0 (w52.heap[gb232]? = some (.cells #[.slice Ao29 t217.length co29, .slice Ao33 t220.length co33, .slice Ao34 t223.length co34, .slice Ao35 t226.length co35, .slice Ao36 t229.length co36] 27 (0, 0))) := ⟨h10_⟩
  have n11_ : Aside0 (w52.heap[gb241]? = some (.cells #[.int .i64 t233, .int .i64 t234, .slice Ao44 t235.length co44, .slice Ao45 t238.length co45] 30 (0, 0))) := ⟨h11_⟩
  have n12_ : Aside0 (w52.heap[gb245]? = some (.cells #[.int .i64 0, .int .i64 0, .slice none 0 0, .slice none 0 0] 30 (0, 0))) := ⟨h12_⟩
  have n13_ : Aside0 (w.heap.size ≤ gb245) := ⟨h13_⟩
  have n14_ : Aside0 (w.heap.size ≤ gb245) := ⟨h14_⟩
  have n15_ : Aside0 (gb214 ≠ gb245) := ⟨h15_⟩
  have n16_ : Aside0 (gb245 ≠ gb214) := ⟨h16_⟩
  have n17_ : Aside0 (gb215 ≠ gb245) := ⟨h17_⟩
  have n18_ : Aside0 (gb245 ≠ gb215) := ⟨h18_⟩
  have n19_ : Aside0 (gb232 ≠ gb245) := ⟨h19_⟩
  have n20_ : Aside0 (gb245 ≠ gb232) := ⟨h20_⟩
  have n21_ : Aside0 (gb241 ≠ gb245) := ⟨h21_⟩
  have n22_ : Aside0 (gb245 ≠ gb241) := ⟨h22_⟩
  have n23_ : Aside0 (Below w.heap.size w w52) := ⟨h23_⟩
  clear HO219
  clear HO222
  clear HO225
  clear HO228
  clear HO231
  clear HO237
  clear HO240
  clear BK214
  clear BK215
  clear BK232
  clear BK241
  clear HB
  clear h0_ h1_ h2_ h3_ h4_ h5_ h6_ h7_ h8_ h9_ h10_ h11_ h12_ h13_ h14_ h15_ h16_ h17_ h18_ h19_ h20_ h21_ h22_ h23_
  have HO219 := n0_
  have HO222 := n1_
  have HO225 := n2_
  have HO228 := n3_
  have HO231 := n4_
  have HO237 := n5_
  have HO240 := n6_
  have HO244 := n7_
  have BK214 := n8_
  have BK215 := n9_
  have BK232 := n10_
  have BK241 := n11_
  have BK245 := n12_
  have GW245 := n13_
  have GE245 := n14_
  have NB214_245 := n15_
  have NB245_214 := n16_
  have NB215_245 := n17_
  have NB245_215 := n18_
  have NB232_245 := n19_
  have NB245_232 := n20_
  have NB241_245 := n21_
  have NB245_241 := n22_
  have HB := n23_
  clear n0_ n1_ n2_ n3_ n4_ n5_ n6_ n7_ n8_ n9_ n10_ n11_ n12_ n13_ n14_ n15_ n16_ n17_ n18_ n19_ n20_ n21_ n22_ n23_
  have hHeld : w52.cell? ⟨gb241, 0, none⟩ = some (.int .i64 t233) ∧ w52.cell? ⟨gb241, 1, none⟩ = some (.int .i64 t234) ∧ w52.cell? ⟨gb241, 2, none⟩ = some (.slice Ao44 t235.length co44) ∧ w52.cell? ⟨gb241, 3, none⟩ = some (.slice Ao45 t238.length co45) := hS_
  obtain ⟨Ao53, co53, eo53⟩ := Kd.S_slice HO244.out
  (first | subst eo53 | (injection eo53 with f1_ f2_ f3_; have f4_ := f1_.symm; have f5_ := f3_.symm; clear f1_ f2_ f3_; subst f4_; subst f5_))
  refine norm_ (a' := ?_) ?_ ?_
  rotate_left
  · simp only [putAll, Act.put, List.setIfInBounds_toArray, List.set_cons_zero, List.set_cons_succ]
    rfl
  refine one_ (i := 10) (N := none) #[true, true, true, true, true, true, true, true, true, true, true] rfl rfl (one_of HT_.out (by kernel_rfl)) (by decide) (fun K hK => ?_)
  have hs54 : w52.cell? ⟨gb245, 0, none⟩ = some (.int .i64 0) := (blk_cell BK245.out 0).trans rfl
  have hfs54 := blk_frozen BK245.out 0
  have hns54_0 := NB214_245.out
  have hns54_1 := NB215_245.out
  have hns54_2 := NB232_245.out
  have hns54_3 := NB241_245.out
  have hms54_0 := NB245_214.out
  have hms54_1 := NB245_215.out
  have hms54_2 := NB245_232.out
  have hms54_3 := NB245_241.out
  have hs55 : w52.cell? ⟨gb245, 1, none⟩ = some (.int .i64 0) := (blk_cell BK245.out 1).trans rfl
  have hfs55 := blk_frozen BK245.out 1
  have hns55_0 := NB214_245.out
  have hns55_1 := NB215_245.out
  have hns55_2 := NB232_245.out
  have hns55_3 := NB241_245.out
  have hms55_0 := NB245_214.out
  have hms55_1 := NB245_215.out
  have hms55_2 := NB245_232.out
  have hms55_3 := NB245_241.out
  have hs56 : w52.cell? ⟨gb245, 2, none⟩ = some (.slice none 0 0) := (blk_cell BK245.out 2).trans rfl
  have hfs56 := blk_frozen BK245.out 2
  have hns56_0 := NB214_245.out
  have hns56_1 := NB215_245.out
  have hns56_2 := NB232_245.out
  have hns56_3 := NB241_245.out
  have hms56_0 := NB245_214.out
  have hms56_1 := NB245_215.out
  have hms56_2 := NB245_232.out
  have hms56_3 := NB245_241.out
  have hs57 : w52.cell? ⟨gb245, 3, none⟩ = some (.slice none 0 0) := (blk_cell BK245.out 3).trans rfl
  have hfs57 := blk_frozen BK245.out 3
  have hns57_0 := NB214_245.out
  have hns57_1 := NB215_245.out
  have hns57_2 := NB232_245.out
  have hns57_3 := NB241_245.out
  have hms57_0 := NB245_214.out
  have hms57_1 := NB245_215.out
  have hms57_2 := NB245_232.out
  have hms57_3 := NB245_241.out
  refine skip_ (w1 := ?_) (by rfl) rfl ?_ ?_
  rotate_left
  · go_simp
    rfl
  refine hK.out _ _ ⟨((cell_far (p := ⟨gb245, _, none⟩) NB241_245.out _).trans (((cell_far (p := ⟨gb245, _, none⟩) NB241_245.out _).trans (((cell_far (p := ⟨gb245, _, none⟩) NB241_245.out _).trans (((cell_far (p := ⟨gb245, _, none⟩) NB241_245.out _).trans (hHeld.1)))))))), ((cell_far (p := ⟨gb245, _, none⟩) NB241_245.out _).trans (((cell_far (p := ⟨gb245, _, none⟩) NB241_245.out _).trans (((cell_far (p := ⟨gb245, _, none⟩) NB241_245.out _).trans (((cell_far (p := ⟨gb245, _, none⟩) NB241_245.out _).trans (hHeld.2.1)))))))), ((cell_far (p := ⟨gb245, _, none⟩) NB241_245.out _).trans (((cell_far (p := ⟨gb245, _, none⟩) NB241_245.out _).trans (((cell_far (p := ⟨gb245, _, none⟩) NB241_245.out _).trans (((cell_far (p := ⟨gb245, _, none⟩) NB241_245.out _).trans (hHeld.2.2.1)))))))), ((cell_far (p := ⟨gb245, _, none⟩) NB241_245.out _).trans (((cell_far (p := ⟨gb245, _, none⟩) NB241_245.out _).trans (((cell_far (p := ⟨gb245, _, none⟩) NB241_245.out _).trans (((cell_far (p := ⟨gb245, _, none⟩) NB241_245.out _).trans (hHeld.2.2.2))))))))⟩ (fun hHeld => ?_)
  clear hK K
  refine done_ (done_of HT_.out (by kernel_rfl)) ?_
  have hnb58 := NB232_245.out
  have hnc58 := NB245_232.out
  have hcz59_0 : w52.cell? ⟨gb232, 0, none⟩ = some (.slice Ao29 t217.length co29) := (blk_cell BK232.out 0).trans rfl
  have hcz59_1 : w52.cell? ⟨gb232, 1, none⟩ = some (.slice Ao33 t220.length co33) := (blk_cell BK232.out 1).trans rfl
  have hcz59_2 : w52.cell? ⟨gb232, 2, none⟩ = some (.slice Ao34 t223.length co34) := (blk_cell BK232.out 2).trans rfl
  have hcz59_3 : w52.cell? ⟨gb232, 3, none⟩ = some (.slice Ao35 t226.length co35) := (blk_cell BK232.out 3).trans rfl
  have hcz59_4 : w52.cell? ⟨gb232, 4, none⟩ = some (.slice Ao36 t229.length co36) := (blk_cell BK232.out 4).trans rfl
  have hfz59_0 := blk_frozen BK232.out 0
  have hfz59_1 := blk_frozen BK232.out 1
  have hfz59_2 := blk_frozen BK232.out 2
  have hfz59_3 := blk_frozen BK232.out 3
  have hfz59_4 := blk_frozen BK232.out 4
  have hnb60 := NB241_245.out
  have hnc60 := NB245_241.out
  have hcz61_0 : w52.cell? ⟨gb241, 0, none⟩ = some (.int .i64 t233) := (blk_cell BK241.out 0).trans rfl
  have hcz61_1 : w52.cell? ⟨gb241, 1, none⟩ = some (.int .i64 t234) := (blk_cell BK241.out 1).trans rfl
  have hcz61_2 : w52.cell? ⟨gb241, 2, none⟩ = some (.slice Ao44 t235.length co44) := (blk_cell BK241.out 2).trans rfl
  have hcz61_3 : w52.cell? ⟨gb241, 3, none⟩ = some (.slice Ao45 t238.length co45) := (blk_cell BK241.out 3).trans rfl
  have hfz61_0 := blk_frozen BK241.out 0
  have hfz61_1 := blk_frozen BK241.out 1
  have hfz61_2 := blk_frozen BK241.out 2
  have hfz61_3 := blk_frozen BK241.out 3
  go_upto_region 9 with (first | ((with_reducible refine gate_callee (f := 16) rfl ?_); refine goesL_ (some 34) rfl rfl Tryd.func16 (by kernel_rfl) rfl #[.agg #[.slice Ao29 t217.length co29, .slice Ao33 t220.length co33, .slice Ao34 t223.length co34, .slice Ao35 t226.length co35, .slice Ao36 t229.length co36], .int .i64 a2, .agg #[.int .i64 t233, .int .i64 t234, .slice Ao44 t235.length co44, .slice Ao45 t238.length co45]] rfl (by (try simp only [List.map_toArray, List.map_cons, List.map_nil]); first | done | rfl | (simp only [List.length_drop, List.length_take]; rfl)) ?_; (with_reducible refine (report_Verdict.calls k _ _ t217 _ _ t220 _ _ t223 _ _ t226 _ _ t229 a2 t233 t234 _ _ t235 _ _ t238 t246 _ (by first | exact HG.out | (refine tab_below HG.out ?_; repeat (first | (with_reducible first | exact HB.out | apply below_alloc | apply pw_below_drewN | apply below_drew1 | refine below_set ?_ GE214.out | refine below_set ?_ GE215.out | refine below_set ?_ GE232.out | refine below_set ?_ GE241.out | refine below_set ?_ GE245.out) | exact HB.out)) | (refine tab_drawn HG.out ?_; repeat (first | exact Drawn0.refl _ | apply drawn_drewN | apply drawn_drew))) ?side1 ?side2 ?side3 ?side4 ?side5 ?side6 ?side7 ?side8 ?side9 ?side10 ?side11 ?side12 ?side13 ?side14 A9.out).mono ?_); (case side1 => refine (Kd.R_reads' (e := 96) (base := w.heap.size) (ok := fun k_ => True) (n := t217.length) (c := co29) ?_).2.2; exact (by (with_reducible repeat (first | apply Kd.R_alloc | apply Kd.R_drewN | apply Kd.R_drew)); exact (Kd.R_mono (Kd.R_far (p := ⟨gb245, 3, none⟩) (Kd.R_far (p := ⟨gb245, 2, none⟩) (Kd.R_far (p := ⟨gb245, 1, none⟩) (Kd.R_far (p := ⟨gb245, 0, none⟩) (Kd.R_types HO219.out BK245.out (by decide)) (fun _ hk => hk.2) (.int .i64 t233)) (fun _ hk => hk.2) (.int .i64 t234)) (fun _ hk => hk.2) (.slice none 0 0)) (fun _ hk => hk.2) (.slice Ao53 y242.length co53)) (fun _ h_ => h_.1)))); (case side2 => exact (Kd.R_reads' HO219.out).2.1); (case side3 => refine (Kd.R_reads' (e := 111) (base := w.heap.size) (ok := fun k_ => some k_ ≠ (.slice Ao36 t229.length co36 : Value).ownBlock) (n := t220.length) (c := co33) ?_).2.2; exact (by (with_reducible repeat (first | apply Kd.R_alloc | apply Kd.R_drewN | apply Kd.R_drew)); exact (Kd.R_mono (Kd.R_far (p := ⟨gb245, 3, none⟩) (Kd.R_far (p := ⟨gb245, 2, none⟩) (Kd.R_far (p := ⟨gb245, 1, none⟩) (Kd.R_far (p := ⟨gb245, 0, none⟩) (Kd.R_types HO222.out BK245.out (by decide)) (fun _ hk => hk.2) (.int .i64 t233)) (fun _ hk => hk.2) (.int .i64 t234)) (fun _ hk => hk.2) (.slice none 0 0)) (fun _ hk => hk.2) (.slice Ao53 y242.length co53)) (fun _ h_ => h_.1)))); (case side4 => exact (Kd.R_reads' HO222.out).2.1); (case side5 => refine (Kd.R_reads' (e := 94) (base := w.heap.size) (ok := fun k_ => True) (n := t223.length) (c := co34) ?_).2.2; exact (by (with_reducible repeat (first | apply Kd.R_alloc | apply Kd.R_drewN | apply Kd.R_drew)); exact (Kd.R_mono (Kd.R_far (p := ⟨gb245, 3, none⟩) (Kd.R_far (p := ⟨gb245, 2, none⟩) (Kd.R_far (p := ⟨gb245, 1, none⟩) (Kd.R_far (p := ⟨gb245, 0, none⟩) (Kd.R_types HO225.out BK245.out (by decide)) (fun _ hk => hk.2) (.int .i64 t233)) (fun _ hk => hk.2) (.int .i64 t234)) (fun _ hk => hk.2) (.slice none 0 0)) (fun _ hk => hk.2) (.slice Ao53 y242.length co53)) (fun _ h_ => h_.1)))); (case side6 => exact (Kd.R_reads' HO225.out).2.1); (case side7 => refine (Kd.R_reads' (e := 73) (base := w.heap.size) (ok := fun k_ => True) (n := t226.length) (c := co35) ?_).2.2; exact (by (with_reducible repeat (first | apply Kd.R_alloc | apply Kd.R_drewN | apply Kd.R_drew)); exact (Kd.R_mono (Kd.R_far (p := ⟨gb245, 3, none⟩) (Kd.R_far (p := ⟨gb245, 2, none⟩) (Kd.R_far (p := ⟨gb245, 1, none⟩) (Kd.R_far (p := ⟨gb245, 0, none⟩) (Kd.R_types HO228.out BK245.out (by decide)) (fun _ hk => hk.2) (.int .i64 t233)) (fun _ hk => hk.2) (.int .i64 t234)) (fun _ hk => hk.2) (.slice none 0 0)) (fun _ hk => hk.2) (.slice Ao53 y242.length co53)) (fun _ h_ => h_.1)))); (case side8 => exact (Kd.R_reads' HO228.out).2.1); (case side9 => refine (Kd.R_reads' (e := 111) (base := w.heap.size) (ok := fun k_ => some k_ ≠ (.slice Ao33 t220.length co33 : Value).ownBlock) (n := t229.length) (c := co36) ?_).2.2; exact (by (with_reducible repeat (first | apply Kd.R_alloc | apply Kd.R_drewN | apply Kd.R_drew)); exact (Kd.R_mono (Kd.R_far (p := ⟨gb245, 3, none⟩) (Kd.R_far (p := ⟨gb245, 2, none⟩) (Kd.R_far (p := ⟨gb245, 1, none⟩) (Kd.R_far (p := ⟨gb245, 0, none⟩) (Kd.R_types HO231.out BK245.out (by decide)) (fun _ hk => hk.2) (.int .i64 t233)) (fun _ hk => hk.2) (.int .i64 t234)) (fun _ hk => hk.2) (.slice none 0 0)) (fun _ hk => hk.2) (.slice Ao53 y242.length co53)) (fun _ h_ => h_.1)))); (case side10 => exact (Kd.R_reads' HO231.out).2.1); (case side11 => refine (Kd.S_reads' (e := 55) (base := w.heap.size) (ok := fun k_ => (some k_ ≠ (.slice Ao45 t238.length co45 : Value).ownBlock ∧ some k_ ≠ (.slice Ao53 y242.length co53 : Value).ownBlock)) (n := t235.length) (c := co44) ?_).2.2; exact (by (with_reducible repeat (first | apply Kd.S_alloc | apply Kd.S_drewN | apply Kd.S_drew)); exact (Kd.S_mono (Kd.S_far (p := ⟨gb245, 3, none⟩) (Kd.S_far (p := ⟨gb245, 2, none⟩) (Kd.S_far (p := ⟨gb245, 1, none⟩) (Kd.S_far (p := ⟨gb245, 0, none⟩) (Kd.S_types HO237.out BK245.out (by decide)) (fun _ hk => hk.2) (.int .i64 t233)) (fun _ hk => hk.2) (.int .i64 t234)) (fun _ hk => hk.2) (.slice none 0 0)) (fun _ hk => hk.2) (.slice Ao53 y242.length co53)) (fun _ h_ => h_.1)))); (case side12 => exact (Kd.S_reads' HO237.out).2.1); (case side13 => refine (Kd.S_reads' (e := 55) (base := w.heap.size) (ok := fun k_ => (some k_ ≠ (.slice Ao44 t235.length co44 : Value).ownBlock ∧ some k_ ≠ (.slice Ao53 y242.length co53 : Value).ownBlock)) (n := t238.length) (c := co45) ?_).2.2; exact (by (with_reducible repeat (first | apply Kd.S_alloc | apply Kd.S_drewN | apply Kd.S_drew)); exact (Kd.S_mono (Kd.S_far (p := ⟨gb245, 3, none⟩) (Kd.S_far (p := ⟨gb245, 2, none⟩) (Kd.S_far (p := ⟨gb245, 1, none⟩) (Kd.S_far (p := ⟨gb245, 0, none⟩) (Kd.S_types HO240.out BK245.out (by decide)) (fun _ hk => hk.2) (.int .i64 t233)) (fun _ hk => hk.2) (.int .i64 t234)) (fun _ hk => hk.2) (.slice none 0 0)) (fun _ hk => hk.2) (.slice Ao53 y242.length co53)) (fun _ h_ => h_.1)))); (case side14 => exact (Kd.S_reads' HO240.out).2.1); rintro e w62 ⟨rfl, hb⟩; refine ⟨_, rfl, ?_⟩; have n0_ := Aside0.mk (Kd.R_below (by (with_reducible repeat (first | apply Kd.R_alloc | apply Kd.R_drewN | apply Kd.R_drew)); exact (Kd.R_mono (Kd.R_far (p := ⟨gb245, 3, none⟩) (Kd.R_far (p := ⟨gb245, 2, none⟩) (Kd.R_far (p := ⟨gb245, 1, none⟩) (Kd.R_far (p := ⟨gb245, 0, none⟩) (Kd.R_types HO219.out BK245.out (by decide)) (fun _ hk => hk.2) (.int .i64 t233)) (fun _ hk => hk.2) (.int .i64 t234)) (fun _ hk => hk.2) (.slice none 0 0)) (fun _ hk => hk.2) (.slice Ao53 y242.length co53)) (fun _ h_ => h_.1))) hb); have n1_ := Aside0.mk (Kd.R_below (by (with_reducible repeat (first | apply Kd.R_alloc | apply Kd.R_drewN | apply Kd.R_drew)); exact (Kd.R_mono (Kd.R_far (p := ⟨gb245, 3, none⟩) (Kd.R_far (p := ⟨gb245, 2, none⟩) (Kd.R_far (p := ⟨gb245, 1, none⟩) (Kd.R_far (p := ⟨gb245, 0, none⟩) (Kd.R_types HO222.out BK245.out (by decide)) (fun _ hk => hk.2) (.int .i64 t233)) (fun _ hk => hk.2) (.int .i64 t234)) (fun _ hk => hk.2) (.slice none 0 0)) (fun _ hk => hk.2) (.slice Ao53 y242.length co53)) (fun _ h_ => h_.1))) hb); have n2_ := Aside0.mk (Kd.R_below (by (with_reducible repeat (first | apply Kd.R_alloc | apply Kd.R_drewN | apply Kd.R_drew)); exact (Kd.R_mono (Kd.R_far (p := ⟨gb245, 3, none⟩) (Kd.R_far (p := ⟨gb245, 2, none⟩) (Kd.R_far (p := ⟨gb245, 1, none⟩) (Kd.R_far (p := ⟨gb245, 0, none⟩) (Kd.R_types HO225.out BK245.out (by decide)) (fun _ hk => hk.2) (.int .i64 t233)) (fun _ hk => hk.2) (.int .i64 t234)) (fun _ hk => hk.2) (.slice none 0 0)) (fun _ hk => hk.2) (.slice Ao53 y242.length co53)) (fun _ h_ => h_.1))) hb); have n3_ := Aside0.mk (Kd.R_below (by (with_reducible repeat (first | apply Kd.R_alloc | apply Kd.R_drewN | apply Kd.R_drew)); exact (Kd.R_mono (Kd.R_far (p := ⟨gb245, 3, none⟩) (Kd.R_far (p := ⟨gb245, 2, none⟩) (Kd.R_far (p := ⟨gb245, 1, none⟩) (Kd.R_far (p := ⟨gb245, 0, none⟩) (Kd.R_types HO228.out BK245.out (by decide)) (fun _ hk => hk.2) (.int .i64 t233)) (fun _ hk => hk.2) (.int .i64 t234)) (fun _ hk => hk.2) (.slice none 0 0)) (fun _ hk => hk.2) (.slice Ao53 y242.length co53)) (fun _ h_ => h_.1))) hb); have n4_ := Aside0.mk (Kd.R_below (by (with_reducible repeat (first | apply Kd.R_alloc | apply Kd.R_drewN | apply Kd.R_drew)); exact (Kd.R_mono (Kd.R_far (p := ⟨gb245, 3, none⟩) (Kd.R_far (p := ⟨gb245, 2, none⟩) (Kd.R_far (p := ⟨gb245, 1, none⟩) (Kd.R_far (p := ⟨gb245, 0, none⟩) (Kd.R_types HO231.out BK245.out (by decide)) (fun _ hk => hk.2) (.int .i64 t233)) (fun _ hk => hk.2) (.int .i64 t234)) (fun _ hk => hk.2) (.slice none 0 0)) (fun _ hk => hk.2) (.slice Ao53 y242.length co53)) (fun _ h_ => h_.1))) hb); have n5_ := Aside0.mk (Kd.S_below (by (with_reducible repeat (first | apply Kd.S_alloc | apply Kd.S_drewN | apply Kd.S_drew)); exact (Kd.S_mono (Kd.S_far (p := ⟨gb245, 3, none⟩) (Kd.S_far (p := ⟨gb245, 2, none⟩) (Kd.S_far (p := ⟨gb245, 1, none⟩) (Kd.S_far (p := ⟨gb245, 0, none⟩) (Kd.S_types HO237.out BK245.out (by decide)) (fun _ hk => hk.2) (.int .i64 t233)) (fun _ hk => hk.2) (.int .i64 t234)) (fun _ hk => hk.2) (.slice none 0 0)) (fun _ hk => hk.2) (.slice Ao53 y242.length co53)) (fun _ h_ => h_.1))) hb); have n6_ := Aside0.mk (Kd.S_below (by (with_reducible repeat (first | apply Kd.S_alloc | apply Kd.S_drewN | apply Kd.S_drew)); exact (Kd.S_mono (Kd.S_far (p := ⟨gb245, 3, none⟩) (Kd.S_far (p := ⟨gb245, 2, none⟩) (Kd.S_far (p := ⟨gb245, 1, none⟩) (Kd.S_far (p := ⟨gb245, 0, none⟩) (Kd.S_types HO240.out BK245.out (by decide)) (fun _ hk => hk.2) (.int .i64 t233)) (fun _ hk => hk.2) (.int .i64 t234)) (fun _ hk => hk.2) (.slice none 0 0)) (fun _ hk => hk.2) (.slice Ao53 y242.length co53)) (fun _ h_ => h_.1))) hb); have n7_ := Aside0.mk (Kd.S_below (by (with_reducible repeat (first | apply Kd.S_alloc | apply Kd.S_drewN | apply Kd.S_drew)); exact (Kd.S_mono (Kd.S_far (p := ⟨gb245, 3, none⟩) (Kd.S_far (p := ⟨gb245, 2, none⟩) (Kd.S_far (p := ⟨gb245, 1, none⟩) (Kd.S_far (p := ⟨gb245, 0, none⟩) (Kd.S_types HO244.out BK245.out (by decide)) (fun _ hk => hk.2) (.int .i64 t233)) (fun _ hk => hk.2) (.int .i64 t234)) (fun _ hk => hk.2) (.slice none 0 0)) (fun _ hk => hk.2) (.slice Ao53 y242.length co53)) (fun _ h_ => h_.1))) hb); have n8_ := Aside0.mk (blk_below (g := gb214) (o := .cells #[.slice A0_0 l0_0.length c0_0, .slice A0_1 l0_1.length c0_1, .slice A0_2 l0_2.length c0_2, .slice A0_3 l0_3.length c0_3, .slice A0_4 l0_4.length c0_4] 27 (0, 0)) (by (with_reducible repeat (first | refine blk_drewN ?_ _ | refine blk_drew ?_ | refine blk_alloc ?_ _)); refine blk_far ?_ NB214_245.out _; (with_reducible repeat (first | refine blk_drewN ?_ _ | refine blk_drew ?_ | refine blk_alloc ?_ _)); refine blk_far ?_ NB214_245.out _; (with_reducible repeat (first | refine blk_drewN ?_ _ | refine blk_drew ?_ | refine blk_alloc ?_ _)); refine blk_far ?_ NB214_245.out _; (with_reducible repeat (first | refine blk_drewN ?_ _ | refine blk_drew ?_ | refine blk_alloc ?_ _)); refine blk_far ?_ NB214_245.out _; (with_reducible repeat (first | refine blk_drewN ?_ _ | refine blk_drew ?_ | refine blk_alloc ?_ _)); exact BK214.out) hb); have n9_ := Aside0.mk (blk_below (g := gb215) (o := .cells #[.int .i64 a1_0, .int .i64 a1_1, .slice A1_2 l1_2.length c1_2, .slice A1_3 l1_3.length c1_3] 30 (0, 0)) (by (with_reducible repeat (first | refine blk_drewN ?_ _ | refine blk_drew ?_ | refine blk_alloc ?_ _)); refine blk_far ?_ NB215_245.out _; (with_reducible repeat (first | refine blk_drewN ?_ _ | refine blk_drew ?_ | refine blk_alloc ?_ _)); refine blk_far ?_ NB215_245.out _; (with_reducible repeat (first | refine blk_drewN ?_ _ | refine blk_drew ?_ | refine blk_alloc ?_ _)); refine blk_far ?_ NB215_245.out _; (with_reducible repeat (first | refine blk_drewN ?_ _ | refine blk_drew ?_ | refine blk_alloc ?_ _)); refine blk_far ?_ NB215_245.out _; (with_reducible repeat (first | refine blk_drewN ?_ _ | refine blk_drew ?_ | refine blk_alloc ?_ _)); exact BK215.out) hb); have n10_ := Aside0.mk (blk_below (g := gb232) (o := .cells #[.slice Ao29 t217.length co29, .slice Ao33 t220.length co33, .slice Ao34 t223.length co34, .slice Ao35 t226.length co35, .slice Ao36 t229.length co36] 27 (0, 0)) (by (with_reducible repeat (first | refine blk_drewN ?_ _ | refine blk_drew ?_ | refine blk_alloc ?_ _)); refine blk_far ?_ NB232_245.out _; (with_reducible repeat (first | refine blk_drewN ?_ _ | refine blk_drew ?_ | refine blk_alloc ?_ _)); refine blk_far ?_ NB232_245.out _; (with_reducible repeat (first | refine blk_drewN ?_ _ | refine blk_drew ?_ | refine blk_alloc ?_ _)); refine blk_far ?_ NB232_245.out _; (with_reducible repeat (first | refine blk_drewN ?_ _ | refine blk_drew ?_ | refine blk_alloc ?_ _)); refine blk_far ?_ NB232_245.out _; (with_reducible repeat (first | refine blk_drewN ?_ _ | refine blk_drew ?_ | refine blk_alloc ?_ _)); exact BK232.out) hb); have n11_ := Aside0.mk (blk_below (g := gb241) (o := .cells #[.int .i64 t233, .int .i64 t234, .slice Ao44 t235.length co44, .slice Ao45 t238.length co45] 30 (0, 0)) (by (with_reducible repeat (first | refine blk_drewN ?_ _ | refine blk_drew ?_ | refine blk_alloc ?_ _)); refine blk_far ?_ NB241_245.out _; (with_reducible repeat (first | refine blk_drewN ?_ _ | refine blk_drew ?_ | refine blk_alloc ?_ _)); refine blk_far ?_ NB241_245.out _; (with_reducible repeat (first | refine blk_drewN ?_ _ | refine blk_drew ?_ | refine blk_alloc ?_ _)); refine blk_far ?_ NB241_245.out _; (with_reducible repeat (first | refine blk_drewN ?_ _ | refine blk_drew ?_ | refine blk_alloc ?_ _)); refine blk_far ?_ NB241_245.out _; (with_reducible repeat (first | refine blk_drewN ?_ _ | refine blk_drew ?_ | refine blk_alloc ?_ _)); exact BK241.out) hb); have n12_ := Aside0.mk (blk_below (g := gb245) (o := .cells #[.int .i64 t233, .int .i64 t234, .slice none 0 0, .slice Ao53 y242.length co53] 30 (0, 0)) (by (with_reducible repeat (first | refine blk_drewN ?_ _ | refine blk_drew ?_ | refine blk_alloc ?_ _)); refine blk_put (cs := #[.int .i64 t233, .int .i64 t234, .slice none 0 0, .slice none 0 0]) ?_ 3 _ rfl; (with_reducible repeat (first | refine blk_drewN ?_ _ | refine blk_drew ?_ | refine blk_alloc ?_ _)); refine blk_put (cs := #[.int .i64 t233, .int .i64 t234, .slice none 0 0, .slice none 0 0]) ?_ 2 _ rfl; (with_reducible repeat (first | refine blk_drewN ?_ _ | refine blk_drew ?_ | refine blk_alloc ?_ _)); refine blk_put (cs := #[.int .i64 t233, .int .i64 0, .slice none 0 0, .slice none 0 0]) ?_ 1 _ rfl; (with_reducible repeat (first | refine blk_drewN ?_ _ | refine blk_drew ?_ | refine blk_alloc ?_ _)); refine blk_put (cs := #[.int .i64 0, .int .i64 0, .slice none 0 0, .slice none 0 0]) ?_ 0 _ rfl; (with_reducible repeat (first | refine blk_drewN ?_ _ | refine blk_drew ?_ | refine blk_alloc ?_ _)); exact BK245.out) hb); have n13_ := Aside0.mk (below_step (by repeat (first | (with_reducible first | exact HB.out | apply below_alloc | apply pw_below_drewN | apply below_drew1 | refine below_set ?_ GE214.out | refine below_set ?_ GE215.out | refine below_set ?_ GE232.out | refine below_set ?_ GE241.out | refine below_set ?_ GE245.out) | exact HB.out)) hb); clear HO219; clear HO222; clear HO225; clear HO228; clear HO231; clear HO237; clear HO240; clear HO244; clear BK214; clear BK215; clear BK232; clear BK241; clear BK245; clear HB; have HO219 := n0_; have HO222 := n1_; have HO225 := n2_; have HO228 := n3_; have HO231 := n4_; have HO237 := n5_; have HO240 := n6_; have HO244 := n7_; have BK214 := n8_; have BK215 := n9_; have BK232 := n10_; have BK241 := n11_; have BK245 := n12_; have HB := n13_; clear n0_ n1_ n2_ n3_ n4_ n5_ n6_ n7_ n8_ n9_ n10_ n11_ n12_ n13_; (try clear hb); (try clear hb2); (try clear hk); (try clear hi); have hcz63_0 : w62.cell? ⟨gb232, 0, none⟩ = some (.slice Ao29 t217.length co29) := (blk_cell BK232.out 0).trans rfl; have hcz63_1 : w62.cell? ⟨gb232, 1, none⟩ = some (.slice Ao33 t220.length co33) := (blk_cell BK232.out 1).trans rfl; have hcz63_2 : w62.cell? ⟨gb232, 2, none⟩ = some (.slice Ao34 t223.length co34) := (blk_cell BK232.out 2).trans rfl; have hcz63_3 : w62.cell? ⟨gb232, 3, none⟩ = some (.slice Ao35 t226.length co35) := (blk_cell BK232.out 3).trans rfl; have hcz63_4 : w62.cell? ⟨gb232, 4, none⟩ = some (.slice Ao36 t229.length co36) := (blk_cell BK232.out 4).trans rfl; have hfz63_0 := blk_frozen BK232.out 0; have hfz63_1 := blk_frozen BK232.out 1; have hfz63_2 := blk_frozen BK232.out 2; have hfz63_3 := blk_frozen BK232.out 3; have hfz63_4 := blk_frozen BK232.out 4; have hnb64 := NB245_214.out; have hnc64 := NB214_245.out; have hnb65 := NB245_215.out; have hnc65 := NB215_245.out; have hcz66_0 : w62.cell? ⟨gb245, 0, none⟩ = some (.int .i64 t233) := (blk_cell BK245.out 0).trans rfl; have hcz66_1 : w62.cell? ⟨gb245, 1, none⟩ = some (.int .i64 t234) := (blk_cell BK245.out 1).trans rfl; have hcz66_2 : w62.cell? ⟨gb245, 2, none⟩ = some (.slice none 0 0) := (blk_cell BK245.out 2).trans rfl; have hcz66_3 : w62.cell? ⟨gb245, 3, none⟩ = some (.slice Ao53 y242.length co53) := (blk_cell BK245.out 3).trans rfl; have hfz66_0 := blk_frozen BK245.out 0; have hfz66_1 := blk_frozen BK245.out 1; have hfz66_2 := blk_frozen BK245.out 2; have hfz66_3 := blk_frozen BK245.out 3) | ((with_reducible refine gate_callee (f := 16) rfl ?_); refine goesL_ (some 38) rfl rfl Tryd.func16 (by kernel_rfl) rfl #[.agg #[.slice Ao29 t217.length co29, .slice Ao33 t220.length co33, .slice Ao34 t223.length co34, .slice Ao35 t226.length co35, .slice Ao36 t229.length co36], .int .i64 a2, .agg #[.int .i64 t233, .int .i64 t234, .slice none 0 0, .slice Ao53 y242.length co53]] rfl (by (try simp only [List.map_toArray, List.map_cons, List.map_nil]); first | done | rfl | (simp only [List.length_drop, List.length_take]; rfl)) ?_; (refine (report_Verdict.calls k _ _ t217 _ _ t220 _ _ t223 _ _ t226 _ _ t229 a2 t233 t234 _ _ ([] : List (List Int)) _ _ y242 t247 _ (by first | exact HG.out | (refine tab_below HG.out ?_; repeat (first | (with_reducible first | exact HB.out | apply below_alloc | apply pw_below_drewN | apply below_drew1 | refine below_set ?_ GE214.out | refine below_set ?_ GE215.out | refine below_set ?_ GE232.out | refine below_set ?_ GE241.out | refine below_set ?_ GE245.out) | exact HB.out)) | (refine tab_drawn HG.out ?_; repeat (first | exact Drawn0.refl _ | apply drawn_drewN | apply drawn_drew))) ?side1 ?side2 ?side3 ?side4 ?side5 ?side6 ?side7 ?side8 ?side9 ?side10 ?side11 ?side12 ?side13 ?side14 A10.out).mono ?_); (case side1 => repeat (first | exact (Kd.R_reads' HO219.out).2.2 | (with_reducible refine Kd.C_alloc ?_ _) | (with_reducible refine Kd.C_drewN ?_ _) | (with_reducible refine Kd.C_drew ?_))); (case side2 => exact (Kd.R_reads' HO219.out).2.1); (case side3 => repeat (first | exact (Kd.R_reads' HO222.out).2.2 | (with_reducible refine Kd.C_alloc ?_ _) | (with_reducible refine Kd.C_drewN ?_ _) | (with_reducible refine Kd.C_drew ?_))); (case side4 => exact (Kd.R_reads' HO222.out).2.1); (case side5 => repeat (first | exact (Kd.R_reads' HO225.out).2.2 | (with_reducible refine Kd.C_alloc ?_ _) | (with_reducible refine Kd.C_drewN ?_ _) | (with_reducible refine Kd.C_drew ?_))); (case side6 => exact (Kd.R_reads' HO225.out).2.1); (case side7 => repeat (first | exact (Kd.R_reads' HO228.out).2.2 | (with_reducible refine Kd.C_alloc ?_ _) | (with_reducible refine Kd.C_drewN ?_ _) | (with_reducible refine Kd.C_drew ?_))); (case side8 => exact (Kd.R_reads' HO228.out).2.1); (case side9 => repeat (first | exact (Kd.R_reads' HO231.out).2.2 | (with_reducible refine Kd.C_alloc ?_ _) | (with_reducible refine Kd.C_drewN ?_ _) | (with_reducible refine Kd.C_drew ?_))); (case side10 => exact (Kd.R_reads' HO231.out).2.1); (case side11 => exact Kd.C_nil _ _); (case side12 => exact Nat.le_refl _); (case side13 => repeat (first | exact (Kd.S_reads' HO244.out).2.2 | (with_reducible refine Kd.C_alloc ?_ _) | (with_reducible refine Kd.C_drewN ?_ _) | (with_reducible refine Kd.C_drew ?_))); (case side14 => exact (Kd.S_reads' HO244.out).2.1); rintro e w67 ⟨rfl, hb⟩; refine ⟨_, rfl, ?_⟩; have n0_ := Aside0.mk (Kd.R_below (by (with_reducible repeat (first | apply Kd.R_alloc | apply Kd.R_drewN | apply Kd.R_drew)); exact HO219.out) hb); have n1_ := Aside0.mk (Kd.R_below (by (with_reducible repeat (first | apply Kd.R_alloc | apply Kd.R_drewN | apply Kd.R_drew)); exact HO222.out) hb); have n2_ := Aside0.mk (Kd.R_below (by (with_reducible repeat (first | apply Kd.R_alloc | apply Kd.R_drewN | apply Kd.R_drew)); exact HO225.out) hb); have n3_ := Aside0.mk (Kd.R_below (by (with_reducible repeat (first | apply Kd.R_alloc | apply Kd.R_drewN | apply Kd.R_drew)); exact HO228.out) hb); have n4_ := Aside0.mk (Kd.R_below (by (with_reducible repeat (first | apply Kd.R_alloc | apply Kd.R_drewN | apply Kd.R_drew)); exact HO231.out) hb); have n5_ := Aside0.mk (Kd.S_below (by (with_reducible repeat (first | apply Kd.S_alloc | apply Kd.S_drewN | apply Kd.S_drew)); exact HO237.out) hb); have n6_ := Aside0.mk (Kd.S_below (by (with_reducible repeat (first | apply Kd.S_alloc | apply Kd.S_drewN | apply Kd.S_drew)); exact HO240.out) hb); have n7_ := Aside0.mk (Kd.S_below (by (with_reducible repeat (first | apply Kd.S_alloc | apply Kd.S_drewN | apply Kd.S_drew)); exact HO244.out) hb); have n8_ := Aside0.mk (blk_below (g := gb214) (o := .cells #[.slice A0_0 l0_0.length c0_0, .slice A0_1 l0_1.length c0_1, .slice A0_2 l0_2.length c0_2, .slice A0_3 l0_3.length c0_3, .slice A0_4 l0_4.length c0_4] 27 (0, 0)) (by (with_reducible repeat (first | refine blk_drewN ?_ _ | refine blk_drew ?_ | refine blk_alloc ?_ _)); exact BK214.out) hb); have n9_ := Aside0.mk (blk_below (g := gb215) (o := .cells #[.int .i64 a1_0, .int .i64 a1_1, .slice A1_2 l1_2.length c1_2, .slice A1_3 l1_3.length c1_3] 30 (0, 0)) (by (with_reducible repeat (first | refine blk_drewN ?_ _ | refine blk_drew ?_ | refine blk_alloc ?_ _)); exact BK215.out) hb); have n10_ := Aside0.mk (blk_below (g := gb232) (o := .cells #[.slice Ao29 t217.length co29, .slice Ao33 t220.length co33, .slice Ao34 t223.length co34, .slice Ao35 t226.length co35, .slice Ao36 t229.length co36] 27 (0, 0)) (by (with_reducible repeat (first | refine blk_drewN ?_ _ | refine blk_drew ?_ | refine blk_alloc ?_ _)); exact BK232.out) hb); have n11_ := Aside0.mk (blk_below (g := gb241) (o := .cells #[.int .i64 t233, .int .i64 t234, .slice Ao44 t235.length co44, .slice Ao45 t238.length co45] 30 (0, 0)) (by (with_reducible repeat (first | refine blk_drewN ?_ _ | refine blk_drew ?_ | refine blk_alloc ?_ _)); exact BK241.out) hb); have n12_ := Aside0.mk (blk_below (g := gb245) (o := .cells #[.int .i64 t233, .int .i64 t234, .slice none 0 0, .slice Ao53 y242.length co53] 30 (0, 0)) (by (with_reducible repeat (first | refine blk_drewN ?_ _ | refine blk_drew ?_ | refine blk_alloc ?_ _)); exact BK245.out) hb); have n13_ := Aside0.mk (below_step (by repeat (first | (with_reducible first | exact HB.out | apply below_alloc | apply pw_below_drewN | apply below_drew1 | refine below_set ?_ GE214.out | refine below_set ?_ GE215.out | refine below_set ?_ GE232.out | refine below_set ?_ GE241.out | refine below_set ?_ GE245.out) | exact HB.out)) hb); clear HO219; clear HO222; clear HO225; clear HO228; clear HO231; clear HO237; clear HO240; clear HO244; clear BK214; clear BK215; clear BK232; clear BK241; clear BK245; clear HB; have HO219 := n0_; have HO222 := n1_; have HO225 := n2_; have HO228 := n3_; have HO231 := n4_; have HO237 := n5_; have HO240 := n6_; have HO244 := n7_; have BK214 := n8_; have BK215 := n9_; have BK232 := n10_; have BK241 := n11_; have BK245 := n12_; have HB := n13_; clear n0_ n1_ n2_ n3_ n4_ n5_ n6_ n7_ n8_ n9_ n10_ n11_ n12_ n13_; (try clear hb); (try clear hb2); (try clear hk); (try clear hi)) | ((with_reducible refine gate_callee (f := 21) rfl ?_); refine goesL_ (some 41) rfl rfl Tryd.func21 (by kernel_rfl) rfl #[.string t246] rfl (by (try simp only [List.map_toArray, List.map_cons, List.map_nil]); first | done | rfl | (simp only [List.length_drop, List.length_take]; rfl)) ?_; (with_reducible refine (proofmarklaw30_behind.calls k t246 t248 t249 _ A11.out).mono ?_); rintro e w' ⟨rfl, ⟨nd, rfl⟩⟩; refine ⟨_, rfl, ?_⟩) | ((with_reducible refine gate_callee (f := 21) rfl ?_); refine goesL_ (some 46) rfl rfl Tryd.func21 (by kernel_rfl) rfl #[.string t247] rfl (by (try simp only [List.map_toArray, List.map_cons, List.map_nil]); first | done | rfl | (simp only [List.length_drop, List.length_take]; rfl)) ?_; (with_reducible refine (proofmarklaw30_behind.calls k t247 t250 t251 _ A12.out).mono ?_); rintro e w' ⟨rfl, ⟨nd, rfl⟩⟩; refine ⟨_, rfl, ?_⟩))
  (try (rw [drewN_self w67]; generalize hq_ : World.drewN w67 _ = w67; have n0_ : Aside0 (Kd.R k96 96 w67 w.heap.size (fun _ => True) (.slice Ao29 t217.length co29) t217) := ⟨by rw [← hq_]; exact (by (with_reducible repeat (first | apply Kd.R_alloc | apply Kd.R_drewN | apply Kd.R_drew)); exact HO219.out)⟩; have n1_ : Aside0 (Kd.R k111 111 w67 w.heap.size (fun k_ => some k_ ≠ (.slice Ao36 t229.length co36 : Value).ownBlock) (.slice Ao33 t220.length co33) t220) := ⟨by rw [← hq_]; exact (by (with_reducible repeat (first | apply Kd.R_alloc | apply Kd.R_drewN | apply Kd.R_drew)); exact HO222.out)⟩; have n2_ : Aside0 (Kd.R k94 94 w67 w.heap.size (fun _ => True) (.slice Ao34 t223.length co34) t223) := ⟨by rw [← hq_]; exact (by (with_reducible repeat (first | apply Kd.R_alloc | apply Kd.R_drewN | apply Kd.R_drew)); exact HO225.out)⟩; have n3_ : Aside0 (Kd.R k73 73 w67 w.heap.size (fun _ => True) (.slice Ao35 t226.length co35) t226) := ⟨by rw [← hq_]; exact (by (with_reducible repeat (first | apply Kd.R_alloc | apply Kd.R_drewN | apply Kd.R_drew)); exact HO228.out)⟩; have n4_ : Aside0 (Kd.R k111 111 w67 w.heap.size (fun k_ => some k_ ≠ (.slice Ao33 t220.length co33 : Value).ownBlock) (.slice Ao36 t229.length co36) t229) := ⟨by rw [← hq_]; exact (by (with_reducible repeat (first | apply Kd.R_alloc | apply Kd.R_drewN | apply Kd.R_drew)); exact HO231.out)⟩; have n5_ : Aside0 (Kd.S (Kd.slice 3 (Kd.int .i64)) 55 w67 w.heap.size (fun k_ => some k_ ≠ (.slice Ao45 t238.length co45 : Value).ownBlock ∧ some k_ ≠ (.slice Ao53 y242.length co53 : Value).ownBlock) (.slice Ao44 t235.length co44) t235) := ⟨by rw [← hq_]; exact (by (with_reducible repeat (first | apply Kd.S_alloc | apply Kd.S_drewN | apply Kd.S_drew)); exact HO237.out)⟩; have n6_ : Aside0 (Kd.S (Kd.slice 3 (Kd.int .i64)) 55 w67 w.heap.size (fun k_ => some k_ ≠ (.slice Ao44 t235.length co44 : Value).ownBlock ∧ some k_ ≠ (.slice Ao53 y242.length co53 : Value).ownBlock) (.slice Ao45 t238.length co45) t238) := ⟨by rw [← hq_]; exact (by (with_reducible repeat (first | apply Kd.S_alloc | apply Kd.S_drewN | apply Kd.S_drew)); exact HO240.out)⟩; have n7_ : Aside0 (Kd.S (Kd.slice 3 (Kd.int .i64)) 55 w67 w.heap.size (fun k_ => some k_ ≠ (.slice Ao44 t235.length co44 : Value).ownBlock ∧ some k_ ≠ (.slice Ao45 t238.length co45 : Value).ownBlock) (.slice Ao53 y242.length co53) y242) := ⟨by rw [← hq_]; exact (by (with_reducible repeat (first | apply Kd.S_alloc | apply Kd.S_drewN | apply Kd.S_drew)); exact HO244.out)⟩; have n8_ : Aside0 (w67.heap[gb214]? = some (.cells #[.slice A0_0 l0_0.length c0_0, .slice A0_1 l0_1.length c0_1, .slice A0_2 l0_2.length c0_2, .slice A0_3 l0_3.length c0_3, .slice A0_4 l0_4.length c0_4] 27 (0, 0))) := ⟨by rw [← hq_]; exact (by (with_reducible repeat (first | refine blk_drewN ?_ _ | refine blk_drew ?_ | refine blk_alloc ?_ _)); exact BK214.out)⟩; have n9_ : Aside0 (w67.heap[gb215]? = some (.cells #[.int .i64 a1_0, .int .i64 a1_1, .slice A1_2 l1_2.length c1_2, .slice A1_3 l1_3.length c1_3] 30 (0, 0))) := ⟨by rw [← hq_]; exact (by (with_reducible repeat (first | refine blk_drewN ?_ _ | refine blk_drew ?_ | refine blk_alloc ?_ _)); exact BK215.out)⟩; have n10_ : Aside0 (w67.heap[gb232]? = some (.cells #[.slice Ao29 t217.length co29, .slice Ao33 t220.length co33, .slice Ao34 t223.length co34, .slice Ao35 t226.length co35, .slice Ao36 t229.length co36] 27 (0, 0))) := ⟨by rw [← hq_]; exact (by (with_reducible repeat (first | refine blk_drewN ?_ _ | refine blk_drew ?_ | refine blk_alloc ?_ _)); exact BK232.out)⟩; have n11_ : Aside0 (w67.heap[gb241]? = some (.cells #[.int .i64 t233, .int .i64 t234, .slice Ao44 t235.length co44, .slice Ao45 t238.length co45] 30 (0, 0))) := ⟨by rw [← hq_]; exact (by (with_reducible repeat (first | refine blk_drewN ?_ _ | refine blk_drew ?_ | refine blk_alloc ?_ _)); exact BK241.out)⟩; have n12_ : Aside0 (w67.heap[gb245]? = some (.cells #[.int .i64 t233, .int .i64 t234, .slice none 0 0, .slice Ao53 y242.length co53] 30 (0, 0))) := ⟨by rw [← hq_]; exact (by (with_reducible repeat (first | refine blk_drewN ?_ _ | refine blk_drew ?_ | refine blk_alloc ?_ _)); exact BK245.out)⟩; have n13_ : Aside0 (Below w.heap.size w w67) := ⟨by rw [← hq_]; exact (by repeat (first | (with_reducible first | exact HB.out | apply below_alloc | apply pw_below_drewN | apply below_drew1 | refine below_set ?_ GE214.out | refine below_set ?_ GE215.out | refine below_set ?_ GE232.out | refine below_set ?_ GE241.out | refine below_set ?_ GE245.out) | exact HB.out))⟩; clear HO219 HO222 HO225 HO228 HO231 HO237 HO240 HO244 BK214 BK215 BK232 BK241 BK245 HB hq_; have HO219 := n0_; have HO222 := n1_; have HO225 := n2_; have HO228 := n3_; have HO231 := n4_; have HO237 := n5_; have HO240 := n6_; have HO244 := n7_; have BK214 := n8_; have BK215 := n9_; have BK232 := n10_; have BK241 := n11_; have BK245 := n12_; have HB := n13_; clear n0_ n1_ n2_ n3_ n4_ n5_ n6_ n7_ n8_ n9_ n10_ n11_ n12_ n13_))
  rcases HCC.out with ⟨rfl, rfl, ⟨c17, c18⟩, ⟨c20, c21⟩, hE⟩ | ⟨rfl, rfl, rfl, rfl, hD⟩
  · have HEQ := Aside0.mk hE
    clear hE HCC
    have hji16w : (IntKind.i64.wrap ((t246.size : Int) - (t248.size : Int))) = ji16 := (i64_w _).trans hji16
    have hji19w : (IntKind.i64.wrap ((t247.size : Int) - (t250.size : Int))) = ji19 := (i64_w _).trans hji19
    have c17b0 := eq_true c17
    have c17b1 : decide (0 ≤ (ji16)) = true := decide_eq_true c17
    clear c17
    have c18b0 := eq_true c18
    have c18b1 : decide ((ji16) ≤ (t246.size : Int)) = true := decide_eq_true c18
    clear c18
    have c20b0 := eq_true c20
    have c20b1 : decide (0 ≤ (ji19)) = true := decide_eq_true c20
    clear c20
    have c21b0 := eq_true c21
    have c21b1 : decide ((ji19) ≤ (t247.size : Int)) = true := decide_eq_true c21
    clear c21
    go_wp2
    have n0_ := Aside0.mk (Kd.R_drew HO219.out)
    have n1_ := Aside0.mk (Kd.R_drew HO222.out)
    have n2_ := Aside0.mk (Kd.R_drew HO225.out)
    have n3_ := Aside0.mk (Kd.R_drew HO228.out)
    have n4_ := Aside0.mk (Kd.R_drew HO231.out)
    have n5_ := Aside0.mk (Kd.S_drew HO237.out)
    have n6_ := Aside0.mk (Kd.S_drew HO240.out)
    have n7_ := Aside0.mk (Kd.S_drew HO244.out)
    have n8_ := Aside0.mk (blk_drew BK214.out)
    have n9_ := Aside0.mk (blk_drew BK215.out)
    have n10_ := Aside0.mk (blk_drew BK232.out)
    have n11_ := Aside0.mk (blk_drew BK241.out)
    have n12_ := Aside0.mk (blk_drew BK245.out)
    have n13_ := Aside0.mk (below_drew1 HB.out)
    clear HO219
    clear HO222
    clear HO225
    clear HO228
    clear HO231
    clear HO237
    clear HO240
    clear HO244
    clear BK214
    clear BK215
    clear BK232
    clear BK241
    clear BK245
    clear HB
    have HO219 := n0_
    have HO222 := n1_
    have HO225 := n2_
    have HO228 := n3_
    have HO231 := n4_
    have HO237 := n5_
    have HO240 := n6_
    have HO244 := n7_
    have BK214 := n8_
    have BK215 := n9_
    have BK232 := n10_
    have BK241 := n11_
    have BK245 := n12_
    have HB := n13_
    clear n0_ n1_ n2_ n3_ n4_ n5_ n6_ n7_ n8_ n9_ n10_ n11_ n12_ n13_
    refine start_ (n := 19) (S := fun w' => True) (ds := []) #[false, false, false, false, false, false, false, false, false, false, false, false, false, false, false, false, false, false, false] (by kernel_rfl) rfl rfl trivial (fun hHeld => ?_); refine with_tabW proofmarklaw30_ReportFirst.tab11 proofmarklaw30_ReportFirst.bits11 (fun HT_ HW_ => ?_)
    generalize w67.drew = w68 at HO219 HO222 HO225 HO228 HO231 HO237 HO240 HO244 BK214 BK215 BK232 BK241 BK245 HB hHeld ⊢
    refine pure_ (i := 0) (N := some 75) (v := ?_) (a' := ?_) #[true, false, false, false, false, false, false, false, false, false, false, false, false, false, false, false, false, false, false] rfl rfl (any_of HT_.out (by kernel_rfl)) (fun _ _ _ h => h) (Or.inl ⟨by rfl, ?_⟩) ?_ ?_
    rotate_left
    · intro w'
      go_simp
      with_reducible rfl
    rotate_left
    · simp only [Act.put, List.setIfInBounds_toArray, List.set_cons_zero, List.set_cons_succ, i64_w, i32_w]
      rfl
    refine pure_ (i := 1) (N := some 76) (v := ?_) (a' := ?_) #[true, true, false, false, false, false, false, false, false, false, false, false, false, false, false, false, false, false, false] rfl rfl (any_of HT_.out (by kernel_rfl)) (fun _ _ _ h => h) (Or.inl ⟨by rfl, ?_⟩) ?_ ?_
    rotate_left
    · intro w'
      go_simp
      with_reducible rfl
    rotate_left
    · simp only [Act.put, List.setIfInBounds_toArray, List.set_cons_zero, List.set_cons_succ, i64_w, i32_w]
      rfl
    refine pure_ (i := 2) (N := some 77) (v := ?_) (a' := ?_) #[true, true, true, false, false, false, false, false, false, false, false, false, false, false, false, false, false, false, false] rfl rfl (any_of HT_.out (by kernel_rfl)) (fun _ _ _ h => h) (Or.inl ⟨by rfl, ?_⟩) ?_ ?_
    rotate_left
    · intro w'
      go_simp
      with_reducible rfl
    rotate_left
    · simp only [Act.put, List.setIfInBounds_toArray, List.set_cons_zero, List.set_cons_succ, i64_w, i32_w]
      rfl
    refine pure_ (i := 3) (N := some 78) (v := ?_) (a' := ?_) #[true, true, true, true, false, false, false, false, false, false, false, false, false, false, false, false, false, false, false] rfl rfl (any_of HT_.out (by kernel_rfl)) (fun _ _ _ h => h) (Or.inl ⟨by rfl, ?_⟩) ?_ ?_
    rotate_left
    · intro w'
      go_simp
      with_reducible rfl
    rotate_left
    · simp only [Act.put, List.setIfInBounds_toArray, List.set_cons_zero, List.set_cons_succ, i64_w, i32_w]
      rfl
    refine pure_ (i := 4) (N := some 79) (v := ?_) (a' := ?_) #[true, true, true, true, true, false, false, false, false, false, false, false, false, false, false, false, false, false, false] rfl rfl (any_of HT_.out (by kernel_rfl)) (fun _ _ _ h => h) (Or.inl ⟨by rfl, ?_⟩) ?_ ?_
    rotate_left
    · intro w'
      go_simp
      with_reducible rfl
    rotate_left
    · simp only [Act.put, List.setIfInBounds_toArray, List.set_cons_zero, List.set_cons_succ, i64_w, i32_w]
      rfl
    refine pure_ (i := 5) (N := some 80) (v := ?_) (a' := ?_) #[true, true, true, true, true, true, false, false, false, false, false, false, false, false, false, false, false, false, false] rfl rfl (any_of HT_.out (by kernel_rfl)) (fun _ _ _ h => h) (Or.inl ⟨by rfl, ?_⟩) ?_ ?_
    rotate_left
    · intro w'
      go_simp
      with_reducible rfl
    rotate_left
    · simp only [Act.put, List.setIfInBounds_toArray, List.set_cons_zero, List.set_cons_succ, i64_w, i32_w]
      rfl
    refine pure_ (i := 6) (N := some 81) (v := ?_) (a' := ?_) #[true, true, true, true, true, true, true, false, false, false, false, false, false, false, false, false, false, false, false] rfl rfl (any_of HT_.out (by kernel_rfl)) (fun _ _ _ h => h) (Or.inl ⟨by rfl, ?_⟩) ?_ ?_
    rotate_left
    · intro w'
      go_simp
      with_reducible rfl
    rotate_left
    · simp only [Act.put, List.setIfInBounds_toArray, List.set_cons_zero, List.set_cons_succ, i64_w, i32_w]
      rfl
    refine pure_ (i := 7) (N := some 82) (v := ?_) (a' := ?_) #[true, true, true, true, true, true, true, true, false, false, false, false, false, false, false, false, false, false, false] rfl rfl (any_of HT_.out (by kernel_rfl)) (fun _ _ _ h => h) (Or.inl ⟨by rfl, ?_⟩) ?_ ?_
    rotate_left
    · intro w'
      go_simp
      with_reducible rfl
    rotate_left
    · simp only [Act.put, List.setIfInBounds_toArray, List.set_cons_zero, List.set_cons_succ, i64_w, i32_w]
      rfl
    refine pure_ (i := 8) (N := some 83) (v := ?_) (a' := ?_) #[true, true, true, true, true, true, true, true, true, false, false, false, false, false, false, false, false, false, false] rfl rfl (any_of HT_.out (by kernel_rfl)) (fun _ _ _ h => h) (Or.inl ⟨by rfl, ?_⟩) ?_ ?_
    rotate_left
    · intro w'
      go_simp
      with_reducible rfl
    rotate_left
    · simp only [Act.put, List.setIfInBounds_toArray, List.set_cons_zero, List.set_cons_succ, i64_w, i32_w]
      rfl
    refine pure_ (i := 9) (N := some 84) (v := ?_) (a' := ?_) #[true, true, true, true, true, true, true, true, true, true, false, false, false, false, false, false, false, false, false] rfl rfl (any_of HT_.out (by kernel_rfl)) (fun _ _ _ h => h) (Or.inl ⟨by rfl, ?_⟩) ?_ ?_
    rotate_left
    · intro w'
      go_simp
      with_reducible rfl
    rotate_left
    · simp only [Act.put, List.setIfInBounds_toArray, List.set_cons_zero, List.set_cons_succ, i64_w, i32_w]
      rfl
    refine pure_ (i := 10) (N := some 85) (v := ?_) (a' := ?_) #[true, true, true, true, true, true, true, true, true, true, true, false, false, false, false, false, false, false, false] rfl rfl (any_of HT_.out (by kernel_rfl)) (fun _ _ _ h => h) (Or.inl ⟨by rfl, ?_⟩) ?_ ?_
    rotate_left
    · intro w'
      go_simp
      with_reducible rfl
    rotate_left
    · simp only [Act.put, List.setIfInBounds_toArray, List.set_cons_zero, List.set_cons_succ, i64_w, i32_w]
      rfl
    refine pure_ (i := 11) (N := some 86) (v := ?_) (a' := ?_) #[true, true, true, true, true, true, true, true, true, true, true, true, false, false, false, false, false, false, false] rfl rfl (any_of HT_.out (by kernel_rfl)) (fun _ _ _ h => h) (Or.inl ⟨by rfl, ?_⟩) ?_ ?_
    rotate_left
    · intro w'
      go_simp
      with_reducible rfl
    rotate_left
    · simp only [Act.put, List.setIfInBounds_toArray, List.set_cons_zero, List.set_cons_succ, i64_w, i32_w]
      rfl
    refine pure_ (i := 12) (N := some 87) (v := ?_) (a' := ?_) #[true, true, true, true, true, true, true, true, true, true, true, true, true, false, false, false, false, false, false] rfl rfl (any_of HT_.out (by kernel_rfl)) (fun _ _ _ h => h) (Or.inl ⟨by rfl, ?_⟩) ?_ ?_
    rotate_left
    · intro w'
      go_simp
      with_reducible rfl
    rotate_left
    · simp only [Act.put, List.setIfInBounds_toArray, List.set_cons_zero, List.set_cons_succ, i64_w, i32_w]
      rfl
    refine pure_ (i := 13) (N := some 88) (v := ?_) (a' := ?_) #[true, true, true, true, true, true, true, true, true, true, true, true, true, true, false, false, false, false, false] rfl rfl (any_of HT_.out (by kernel_rfl)) (fun _ _ _ h => h) (Or.inl ⟨by rfl, ?_⟩) ?_ ?_
    rotate_left
    · intro w'
      go_simp
      with_reducible rfl
    rotate_left
    · simp only [Act.put, List.setIfInBounds_toArray, List.set_cons_zero, List.set_cons_succ, i64_w, i32_w]
      rfl
    refine pure_ (i := 14) (N := some 89) (v := ?_) (a' := ?_) #[true, true, true, true, true, true, true, true, true, true, true, true, true, true, true, false, false, false, false] rfl rfl (any_of HT_.out (by kernel_rfl)) (fun _ _ _ h => h) (Or.inl ⟨by rfl, ?_⟩) ?_ ?_
    rotate_left
    · intro w'
      go_simp
      with_reducible rfl
    rotate_left
    · simp only [Act.put, List.setIfInBounds_toArray, List.set_cons_zero, List.set_cons_succ, i64_w, i32_w]
      rfl
    refine pure_ (i := 15) (N := some 90) (v := ?_) (a' := ?_) #[true, true, true, true, true, true, true, true, true, true, true, true, true, true, true, true, false, false, false] rfl rfl (any_of HT_.out (by kernel_rfl)) (fun _ _ _ h => h) (Or.inl ⟨by rfl, ?_⟩) ?_ ?_
    rotate_left
    · intro w'
      go_simp
      with_reducible rfl
    rotate_left
    · simp only [Act.put, List.setIfInBounds_toArray, List.set_cons_zero, List.set_cons_succ, i64_w, i32_w]
      rfl
    refine pure_ (i := 16) (N := some 91) (v := ?_) (a' := ?_) #[true, true, true, true, true, true, true, true, true, true, true, true, true, true, true, true, true, false, false] rfl rfl (any_of HT_.out (by kernel_rfl)) (fun _ _ _ h => h) (Or.inl ⟨by rfl, ?_⟩) ?_ ?_
    rotate_left
    · intro w'
      go_simp
      with_reducible rfl
    rotate_left
    · simp only [Act.put, List.setIfInBounds_toArray, List.set_cons_zero, List.set_cons_succ, i64_w, i32_w]
      rfl
    refine pure_ (i := 17) (N := some 92) (v := ?_) (a' := ?_) #[true, true, true, true, true, true, true, true, true, true, true, true, true, true, true, true, true, true, false] rfl rfl (any_of HT_.out (by kernel_rfl)) (fun _ _ _ h => h) (Or.inl ⟨by rfl, ?_⟩) ?_ ?_
    rotate_left
    · intro w'
      go_simp
      with_reducible rfl
    rotate_left
    · simp only [Act.put, List.setIfInBounds_toArray, List.set_cons_zero, List.set_cons_succ, i64_w, i32_w]
      rfl
    refine pure_ (i := 18) (N := some 6) (v := ?_) (a' := ?_) #[true, true, true, true, true, true, true, true, true, true, true, true, true, true, true, true, true, true, true] rfl rfl (any_of HT_.out (by kernel_rfl)) (fun _ _ _ h => h) (Or.inl ⟨by rfl, ?_⟩) ?_ ?_
    rotate_left
    · intro w'
      go_simp
      with_reducible rfl
    rotate_left
    · simp only [Act.put, List.setIfInBounds_toArray, List.set_cons_zero, List.set_cons_succ, i64_w, i32_w]
      rfl
    refine done_ (done_of HT_.out (by kernel_rfl)) ?_
    try go_wp2
    go_ret
    refine ⟨by first | (rw [HEQ.out]; rfl) | (simp [HEQ.out]; done) | (simp only [HEQ.out]; rfl), ?_⟩
    repeat (first | (with_reducible first | exact HB.out | apply below_alloc | apply pw_below_drewN | apply below_drew1 | refine below_set ?_ GE214.out | refine below_set ?_ GE215.out | refine below_set ?_ GE232.out | refine below_set ?_ GE241.out | refine below_set ?_ GE245.out) | exact HB.out)
  · have he : ((⟨#[]⟩ : ByteArray).toList.isEmpty) = true := by rw [ByteArray.toList_eq]; rfl
    clear HCC hji16 hji19
    have hzB := (blk_cell BK232.out 3)
    by_cases hn : a2 < 0
    · skip
      go_wp2
      go_ret
      refine ⟨by first | rfl | (simp [*]; done), ?_⟩
      repeat (first | (with_reducible first | exact HB.out | apply below_alloc | apply pw_below_drewN | apply below_drew1 | refine below_set ?_ GE214.out | refine below_set ?_ GE215.out | refine below_set ?_ GE232.out | refine below_set ?_ GE241.out | refine below_set ?_ GE245.out) | exact HB.out)
    · have hm : (t226.length : Int) ≤ a2 := by omega
      go_wp2
      go_ret
      refine ⟨by first | rfl | (simp [*]; done), ?_⟩
      repeat (first | (with_reducible first | exact HB.out | apply below_alloc | apply pw_below_drewN | apply below_drew1 | refine below_set ?_ GE214.out | refine below_set ?_ GE215.out | refine below_set ?_ GE232.out | refine below_set ?_ GE241.out | refine below_set ?_ GE245.out) | exact HB.out)
end Go.Proofs.YtmfekngjhiofaaaDoor.Q
