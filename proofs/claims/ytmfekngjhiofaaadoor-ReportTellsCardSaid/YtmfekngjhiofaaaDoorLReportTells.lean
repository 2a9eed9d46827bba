-- Written by the session's own programs (wip/tools/ownprint.py, prune.py) for this claim: one function of the translation, the ways on which it answers true.
import Derived.Test.YtmfekngjhiofaaaDoorQx0
import Derived.Test.YtmfekngjhiofaaaDoorQx12
import Derived.Test.YtmfekngjhiofaaaDoorQx13
import Derived.Test.YtmfekngjhiofaaaDoorHFaults
import Derived.Test.YtmfekngjhiofaaaDoorHHead
import Derived.Test.YtmfekngjhiofaaaDoorHRFaults
import Derived.Test.YtmfekngjhiofaaaDoorHRVerdict
import Derived.Test.YtmfekngjhiofaaaDoorHTab
import Derived.Test.YtmfekngjhiofaaaDoorHVerdict
namespace Go.Proofs.YtmfekngjhiofaaaDoor.Q
open Go.RowKit Go.Proofs.YtmfekngjhiofaaaDoorW.PrintWords Go.Proofs.YtmfekngjhiofaaaDoorW.PrintLast Go.Proofs.YtmfekngjhiofaaaDoorW.PrintMore
attribute [local go_sem] max2_int min2_int max_two min_two max_three min_three max_four min_four   -- for this text's walks alone
set_option linter.unusedVariables false
set_option linter.unusedSimpArgs false

/-! ### proofmarklaw30_ReportTells: function 3 -/
def proofmarklaw30_ReportTells.l0 : Nat → Bool → List (S40) → Int → List (S96) → List (S111) → List (S94) → List (S73) → List (S111) → Int → Int → List (List Int) → List (List Int) → Option (Bool)
  | 0, _, _, _, _, _, _, _, _, _, _, _, _ => none
  | k + 1, x7, x10, x11, x254000, x254001, x254002, x254003, x254004, x263000, x263001, x263002, x263003 => if x11 ≤ (x254003.length : Int) then ((report_Verdict.f k x254000 x254001 x254002 x254003 x254004 x11 x263000 x263001 x263002 x263003).bind fun t269 => ((proofmarkref30_Verdict.f k x254000 x254001 x254002 x254003 x254004 x11 x263000 x263001 x263002 x263003).bind fun t270 => (if t269.toList = t270.toList then (proofmarklaw30_ReportTells.l0 k x7 x10 (wrap64 (x11 + 1)) x254000 x254001 x254002 x254003 x254004 x263000 x263001 x263002 x263003) else (some false)))) else (if x7 = true then ((report_Faults.f x10).bind fun t267 => ((proofmarkref30_Faults.f x10).bind fun t268 => (some (t267.toList == t268.toList)))) else (some false))
def proofmarklaw30_ReportTells.f (k : Nat) (l0_0 : List (S96)) (l0_1 : List (S111)) (l0_2 : List (S94)) (l0_3 : List (S73)) (l0_4 : List (S111)) (a1_0 : Int) (a1_1 : Int) (l1_2 : List (List Int)) (l1_3 : List (List Int)) (l2 : List (S40)) : Option (Bool) := (proofmarklaw30_head.f k).bind fun t237 => ((proofmarkref30_Few.f k l0_0 l0_1 l0_2 l0_3 l0_4).bind fun bt238 => ((proofmarkref30_Fit.f k a1_0 a1_1 l1_2 l1_3).bind fun bt254 => (if 0 ≤ (mn (l2.length : Int) 50) then (if (mn (l2.length : Int) 50) ≤ (l2.length : Int) then (proofmarklaw30_ReportTells.l0 k t237 (l2.take ((mn (l2.length : Int) 50) : Int).toNat) (-1) bt238.1 bt238.2.1 bt238.2.2.1 bt238.2.2.2.1 bt238.2.2.2.2 bt254.1 bt254.2.1 bt254.2.2.1 bt254.2.2.2) else (none)) else (none))))
theorem proofmarklaw30_ReportTells.mono_l : ∀ k, (∀ y0 y1 y2 y3 y4 y5 y6 y7 y8 y9 y10 y11, LeO (proofmarklaw30_ReportTells.l0 k y0 y1 y2 y3 y4 y5 y6 y7 y8 y9 y10 y11) (proofmarklaw30_ReportTells.l0 (k + 1) y0 y1 y2 y3 y4 y5 y6 y7 y8 y9 y10 y11))
  | 0 => fun _ _ _ _ _ _ _ _ _ _ _ _ r h => by simp [proofmarklaw30_ReportTells.l0] at h
  | k + 1 => by
    have ih0 := proofmarklaw30_ReportTells.mono_l k
    · intro y0 y1 y2 y3 y4 y5 y6 y7 y8 y9 y10 y11
      unfold proofmarklaw30_ReportTells.l0
      repeat' first
      | (with_reducible exact ih0 _ _ _ _ _ _ _ _ _ _ _ _)
      | (with_reducible exact proofmarklaw30_head.mono _)
      | (with_reducible exact proofmarkref30_Few.mono _ _ _ _ _ _)
      | (with_reducible exact proofmarkref30_Fit.mono _ _ _ _ _)
      | (with_reducible exact proofmarkref30_Verdict.mono _ _ _ _ _ _ _ _ _ _ _)
      | (with_reducible exact report_Verdict.mono _ _ _ _ _ _ _ _ _ _ _)
      | (with_reducible exact LeO.refl _)
      | (with_reducible exact LeO.none _)
      | (with_reducible refine LeO.ite ?_ ?_)
      | (with_reducible refine LeO.bind ?_ (fun _ => ?_))
      | exact ih0 _ _ _ _ _ _ _ _ _ _ _ _
      | exact proofmarklaw30_head.mono _
      | exact proofmarkref30_Few.mono _ _ _ _ _ _
      | exact proofmarkref30_Fit.mono _ _ _ _ _
      | exact proofmarkref30_Verdict.mono _ _ _ _ _ _ _ _ _ _ _
      | exact report_Verdict.mono _ _ _ _ _ _ _ _ _ _ _
      | exact LeO.none _
      | refine LeO.ite ?_ ?_
      | refine LeO.bind ?_ (fun _ => ?_)
theorem proofmarklaw30_ReportTells.mono : ∀ a0 a1 a2 a3 a4 a5 a6 a7 a8 a9 k, LeO (proofmarklaw30_ReportTells.f k a0 a1 a2 a3 a4 a5 a6 a7 a8 a9) (proofmarklaw30_ReportTells.f (k + 1) a0 a1 a2 a3 a4 a5 a6 a7 a8 a9) := by
  intro a0 a1 a2 a3 a4 a5 a6 a7 a8 a9 k
  have ih0 := proofmarklaw30_ReportTells.mono_l k
  unfold proofmarklaw30_ReportTells.f
  repeat' first
      | (with_reducible exact ih0 _ _ _ _ _ _ _ _ _ _ _ _)
      | (with_reducible exact proofmarklaw30_head.mono _)
      | (with_reducible exact proofmarkref30_Few.mono _ _ _ _ _ _)
      | (with_reducible exact proofmarkref30_Fit.mono _ _ _ _ _)
      | (with_reducible exact proofmarkref30_Verdict.mono _ _ _ _ _ _ _ _ _ _ _)
      | (with_reducible exact report_Verdict.mono _ _ _ _ _ _ _ _ _ _ _)
      | (with_reducible exact LeO.refl _)
      | (with_reducible exact LeO.none _)
      | (with_reducible refine LeO.ite ?_ ?_)
      | (with_reducible refine LeO.bind ?_ (fun _ => ?_))
      | exact ih0 _ _ _ _ _ _ _ _ _ _ _ _
      | exact proofmarklaw30_head.mono _
      | exact proofmarkref30_Few.mono _ _ _ _ _ _
      | exact proofmarkref30_Fit.mono _ _ _ _ _
      | exact proofmarkref30_Verdict.mono _ _ _ _ _ _ _ _ _ _ _
      | exact report_Verdict.mono _ _ _ _ _ _ _ _ _ _ _
      | exact LeO.none _
      | refine LeO.ite ?_ ?_
      | refine LeO.bind ?_ (fun _ => ?_)
def proofmarklaw30_ReportTells.T8 : Bool × List (List Nat × List Nat) := (true, [([], []), ([], []), ([], []), ([0, 1, 2], [0, 1, 2]), ([], []), ([], []), ([], []), ([4, 5, 6, 3], [4, 5, 6]), ([3, 7], [3, 7])])
def proofmarklaw30_ReportTells.B8 : List Nat := [0, 0, 0, 7, 0, 0, 0, 127, 255]
theorem proofmarklaw30_ReportTells.tab8 : rtab .any (opsOf Tryd.f3 8) = proofmarklaw30_ReportTells.T8 := by kernel_rfl
theorem proofmarklaw30_ReportTells.bits8 : waitsOk proofmarklaw30_ReportTells.T8.2 proofmarklaw30_ReportTells.B8 = true := by kernel_rfl
set_option maxHeartbeats 8000000 in
set_option maxRecDepth 100000 in
theorem proofmarklaw30_ReportTells.calls1 (k : Nat) (A0_0 : Option Addr) (c0_0 : Nat) (l0_0 : List (S96)) (A0_1 : Option Addr) (c0_1 : Nat) (l0_1 : List (S111)) (A0_2 : Option Addr) (c0_2 : Nat) (l0_2 : List (S94)) (A0_3 : Option Addr) (c0_3 : Nat) (l0_3 : List (S73)) (A0_4 : Option Addr) (c0_4 : Nat) (l0_4 : List (S111)) (a1_0 : Int) (a1_1 : Int) (A1_2 : Option Addr) (c1_2 : Nat) (l1_2 : List (List Int)) (A1_3 : Option Addr) (c1_3 : Nat) (l1_3 : List (List Int)) (A2 : Option Addr) (c2 : Nat) (l2 : List (S40)) (r : Bool) (w : World) (hG : Tab w) (hr0_0 : Kd.C k96 w A0_0 l0_0.length l0_0) (hc0_0 : l0_0.length ≤ c0_0) (hr0_1 : Kd.C k111 w A0_1 l0_1.length l0_1) (hc0_1 : l0_1.length ≤ c0_1) (hr0_2 : Kd.C k94 w A0_2 l0_2.length l0_2) (hc0_2 : l0_2.length ≤ c0_2) (hr0_3 : Kd.C k73 w A0_3 l0_3.length l0_3) (hc0_3 : l0_3.length ≤ c0_3) (hr0_4 : Kd.C k111 w A0_4 l0_4.length l0_4) (hc0_4 : l0_4.length ≤ c0_4) (hr1_2 : Kd.C (Kd.slice 3 (Kd.int .i64)) w A1_2 l1_2.length l1_2) (hc1_2 : l1_2.length ≤ c1_2) (hr1_3 : Kd.C (Kd.slice 3 (Kd.int .i64)) w A1_3 l1_3.length l1_3) (hc1_3 : l1_3.length ≤ c1_3) (hr2 : Kd.C k40 w A2 l2.length l2) (hc2 : l2.length ≤ c2) (h : proofmarklaw30_ReportTells.f k l0_0 l0_1 l0_2 l0_3 l0_4 a1_0 a1_1 l1_2 l1_3 l2 = some r) (hr : r = true) :
    Calls Tryd.prog 3 #[.agg #[.slice A0_0 l0_0.length c0_0, .slice A0_1 l0_1.length c0_1, .slice A0_2 l0_2.length c0_2, .slice A0_3 l0_3.length c0_3, .slice A0_4 l0_4.length c0_4], .agg #[.int .i64 a1_0, .int .i64 a1_1, .slice A1_2 l1_2.length c1_2, .slice A1_3 l1_3.length c1_3], .slice A2 l2.length c2] w fun e w' => e = .returned (.bool r) ∧ Below w.heap.size w w' := by
  have HRT := Aside0.mk hr
  clear hr
  have HG := Aside0.mk hG
  clear hG
  have hu27 := Tryd.underlying27
  have hu30 := Tryd.underlying30
  have HR0_0 := Aside0.mk hr0_0
  have HC0_0 := Aside0.mk hc0_0
  clear hr0_0 hc0_0
  have HR0_1 := Aside0.mk hr0_1
  have HC0_1 := Aside0.mk hc0_1
  clear hr0_1 hc0_1
  have HR0_2 := Aside0.mk hr0_2
  have HC0_2 := Aside0.mk hc0_2
  clear hr0_2 hc0_2
  have HR0_3 := Aside0.mk hr0_3
  have HC0_3 := Aside0.mk hc0_3
  clear hr0_3 hc0_3
  have HR0_4 := Aside0.mk hr0_4
  have HC0_4 := Aside0.mk hc0_4
  clear hr0_4 hc0_4
  have HR1_2 := Aside0.mk hr1_2
  have HC1_2 := Aside0.mk hc1_2
  clear hr1_2 hc1_2
  have HR1_3 := Aside0.mk hr1_3
  have HC1_3 := Aside0.mk hc1_3
  clear hr1_3 hc1_3
  have HR2 := Aside0.mk hr2
  have HC2 := Aside0.mk hc2
  clear hr2 hc2
  have HB := Aside0.mk (Below.refl w.heap.size w)
  have H : ((proofmarklaw30_head.f k).bind fun t237 => ((proofmarkref30_Few.f k l0_0 l0_1 l0_2 l0_3 l0_4).bind fun bt238 => ((proofmarkref30_Fit.f k a1_0 a1_1 l1_2 l1_3).bind fun bt254 => (if 0 ≤ (mn (l2.length : Int) 50) then (if (mn (l2.length : Int) 50) ≤ (l2.length : Int) then (proofmarklaw30_ReportTells.l0 k t237 (l2.take ((mn (l2.length : Int) 50) : Int).toNat) (-1) bt238.1 bt238.2.1 bt238.2.2.1 bt238.2.2.2.1 bt238.2.2.2.2 bt254.1 bt254.2.1 bt254.2.2.1 bt254.2.2.2) else (none)) else (none))))) = some r := h
  clear h
  replace H := Option.bind_eq_some_iff.mp H
  obtain ⟨t237, A40, H⟩ := H
  replace H : ((proofmarkref30_Few.f k l0_0 l0_1 l0_2 l0_3 l0_4).bind fun bt238 => ((proofmarkref30_Fit.f k a1_0 a1_1 l1_2 l1_3).bind fun bt254 => (if 0 ≤ (mn (l2.length : Int) 50) then (if (mn (l2.length : Int) 50) ≤ (l2.length : Int) then (proofmarklaw30_ReportTells.l0 k t237 (l2.take ((mn (l2.length : Int) 50) : Int).toNat) (-1) bt238.1 bt238.2.1 bt238.2.2.1 bt238.2.2.2.1 bt238.2.2.2.2 bt254.1 bt254.2.1 bt254.2.2.1 bt254.2.2.2) else (none)) else (none)))) = some r := H
  have A4 := Aside0.mk A40
  clear A40
  replace H := Option.bind_eq_some_iff.mp H
  obtain ⟨⟨t238, t241, t244, t247, t250⟩, A50, H⟩ := H
  replace H : ((proofmarkref30_Fit.f k a1_0 a1_1 l1_2 l1_3).bind fun bt254 => (if 0 ≤ (mn (l2.length : Int) 50) then (if (mn (l2.length : Int) 50) ≤ (l2.length : Int) then (proofmarklaw30_ReportTells.l0 k t237 (l2.take ((mn (l2.length : Int) 50) : Int).toNat) (-1) t238 t241 t244 t247 t250 bt254.1 bt254.2.1 bt254.2.2.1 bt254.2.2.2) else (none)) else (none))) = some r := H
  have A5 := Aside0.mk A50
  clear A50
  replace H := Option.bind_eq_some_iff.mp H
  obtain ⟨⟨t254, t255, t256, t259⟩, A60, H⟩ := H
  replace H : (if 0 ≤ (mn (l2.length : Int) 50) then (if (mn (l2.length : Int) 50) ≤ (l2.length : Int) then (proofmarklaw30_ReportTells.l0 k t237 (l2.take ((mn (l2.length : Int) 50) : Int).toNat) (-1) t238 t241 t244 t247 t250 t254 t255 t256 t259) else (none)) else (none)) = some r := H
  have A6 := Aside0.mk A60
  clear A60
  obtain ⟨ji7, hji7⟩ : ∃ j_ : Int, (mn (l2.length : Int) 50) = j_ := ⟨_, rfl⟩
  replace H : (if 0 ≤ (ji7) then (if (ji7) ≤ (l2.length : Int) then (proofmarklaw30_ReportTells.l0 k t237 (l2.take ((ji7) : Int).toNat) (-1) t238 t241 t244 t247 t250 t254 t255 t256 t259) else (none)) else (none)) = some r := by first | (rw [hji7] at H; exact H)
  (try rw [hji7] at A4)
  (try rw [hji7] at A5)
  (try rw [hji7] at A6)
  (try (have hji7h : ji7 ≤ 50 := by (rw [← hji7]; unfold mn; (repeat' split) <;> omega)))
  (try (have hji7g : ji7 ≤ 64 := by omega))
  (try (have hji7l : 0 ≤ ji7 := by (rw [← hji7]; unfold mn; (repeat' split) <;> omega)))
  (try (have hji7m : 0 ≤ ji7 := by omega))
  have hji7_ : (if 50 < (l2.length : Int) then 50 else (l2.length : Int)) = ji7 := hji7
  by_cases c8 : 0 ≤ (ji7)
  · rw [if_pos c8] at H
    have c8b0 := eq_true c8
    have c8b1 : decide (0 ≤ (ji7)) = true := decide_eq_true c8
    clear c8
    by_cases c9 : (ji7) ≤ (l2.length : Int)
    · rw [if_pos c9] at H
      have c9b0 := eq_true c9
      have c9b1 : decide ((ji7) ≤ (l2.length : Int)) = true := decide_eq_true c9
      clear c9
      obtain ⟨y263, hy263⟩ : ∃ y_ : List (S40), y_ = (l2.take ((ji7) : Int).toNat) := ⟨_, rfl⟩
      replace H : (proofmarklaw30_ReportTells.l0 k t237 y263 (-1) t238 t241 t244 t247 t250 t254 t255 t256 t259) = some r := by first | (rw [hy263]; with_reducible exact H)
      have Ny263 := Aside0.mk hy263
      clear hy263
      have H' := Aside0.mk H
      clear H
      go_enter Tryd.func3, Tryd.ntmps3
      go_wp2_with (first | ((with_reducible refine gate_dst (N := 3) rfl ?_); refine box_event ?hg (N := 3) ?hd (cs := #[.slice A0_0 l0_0.length c0_0, .slice A0_1 l0_1.length c0_1, .slice A0_2 l0_2.length c0_2, .slice A0_3 l0_3.length c0_3, .slice A0_4 l0_4.length c0_4]) (t := 27) ?hr ?_; (case hd => rfl); (case hg => rfl); (case hr => first | (go_simp; done)); intro gb235 hg w10 hbox hb; have n0_ := Aside0.mk (below_step HB.out hb); have n1_ := Aside0.mk (hbox); have n2_ := Aside0.mk ((by rw [hg]; exact (below_size HB.out) : w.heap.size ≤ gb235)); have n3_ := Aside0.mk ((by rw [hg]; exact (below_size HB.out) : w.heap.size ≤ gb235)); clear HB; have HB := n0_; have BK235 := n1_; have GW235 := n2_; have GE235 := n3_; clear n0_ n1_ n2_ n3_; clear hb hbox hg) | ((with_reducible refine gate_dst (N := 4) rfl ?_); refine box_event ?hg (N := 4) ?hd (cs := #[.int .i64 a1_0, .int .i64 a1_1, .slice A1_2 l1_2.length c1_2, .slice A1_3 l1_3.length c1_3]) (t := 30) ?hr ?_; (case hd => rfl); (case hg => rfl); (case hr => first | (go_simp; done)); intro gb236 hg w11 hbox hb; have n0_ := Aside0.mk (blk_below BK235.out hb); have n1_ := Aside0.mk (below_step HB.out hb); have n2_ := Aside0.mk (hbox); have n3_ := Aside0.mk ((by rw [hg]; exact (below_size HB.out) : w.heap.size ≤ gb236)); have n4_ := Aside0.mk ((by rw [hg]; exact (below_size HB.out) : w.heap.size ≤ gb236)); have n5_ := Aside0.mk ((by rw [hg]; exact Nat.ne_of_lt (blk_lt BK235.out) : gb235 ≠ gb236)); have n6_ := Aside0.mk ((by rw [hg]; exact Nat.ne_of_gt (blk_lt BK235.out) : gb236 ≠ gb235)); clear BK235; clear HB; have BK235 := n0_; have HB := n1_; have BK236 := n2_; have GW236 := n3_; have GE236 := n4_; have NB235_236 := n5_; have NB236_235 := n6_; clear n0_ n1_ n2_ n3_ n4_ n5_ n6_; clear hb hbox hg) | ((with_reducible refine gate_callee (f := 13) rfl ?_); refine goesL_ (some 12) rfl rfl Tryd.func13 (by kernel_rfl) rfl #[] rfl (by (try simp only [List.map_toArray, List.map_cons, List.map_nil]); first | done) ?_; (with_reducible refine (proofmarklaw30_head.calls k t237 _ (by first | (refine tab_below HG.out ?_; repeat (first | (with_reducible first | exact HB.out)))) A4.out).mono ?_); rintro e w12 ⟨rfl, hb⟩; refine ⟨_, rfl, ?_⟩; have n0_ := Aside0.mk (blk_below BK235.out hb); have n1_ := Aside0.mk (blk_below BK236.out hb); have n2_ := Aside0.mk (below_step HB.out hb); clear BK235; clear BK236; clear HB; have BK235 := n0_; have BK236 := n1_; have HB := n2_; clear n0_ n1_ n2_; (try clear hb); (try clear hb2); (try clear hk); (try clear hi); have hnb13 := NB235_236.out; have hnc13 := NB236_235.out; have hcz14_0 : w12.cell? ⟨gb235, 0, none⟩ = some (.slice A0_0 l0_0.length c0_0) := (blk_cell BK235.out 0).trans rfl; have hcz14_1 : w12.cell? ⟨gb235, 1, none⟩ = some (.slice A0_1 l0_1.length c0_1) := (blk_cell BK235.out 1).trans rfl; have hcz14_2 : w12.cell? ⟨gb235, 2, none⟩ = some (.slice A0_2 l0_2.length c0_2) := (blk_cell BK235.out 2).trans rfl; have hcz14_3 : w12.cell? ⟨gb235, 3, none⟩ = some (.slice A0_3 l0_3.length c0_3) := (blk_cell BK235.out 3).trans rfl; have hcz14_4 : w12.cell? ⟨gb235, 4, none⟩ = some (.slice A0_4 l0_4.length c0_4) := (blk_cell BK235.out 4).trans rfl; have hfz14_0 := blk_frozen BK235.out 0; have hfz14_1 := blk_frozen BK235.out 1; have hfz14_2 := blk_frozen BK235.out 2; have hfz14_3 := blk_frozen BK235.out 3; have hfz14_4 := blk_frozen BK235.out 4) | ((with_reducible refine gate_callee (f := 14) rfl ?_); refine goesL_ (some 14) rfl rfl Tryd.func14 (by kernel_rfl) rfl #[.agg #[.slice A0_0 l0_0.length c0_0, .slice A0_1 l0_1.length c0_1, .slice A0_2 l0_2.length c0_2, .slice A0_3 l0_3.length c0_3, .slice A0_4 l0_4.length c0_4]] rfl (by (try simp only [List.map_toArray, List.map_cons, List.map_nil]); first | rfl) ?_; (with_reducible refine (proofmarkref30_Few.calls k _ _ l0_0 _ _ l0_1 _ _ l0_2 _ _ l0_3 _ _ l0_4 t238 t241 t244 t247 t250 _ ?side1 ?side2 ?side3 ?side4 ?side5 ?side6 ?side7 ?side8 ?side9 ?side10 A5.out).mono ?_); (case side1 => repeat (first | exact (Kd.C_below HR0_0.out HB.out))); (case side2 => exact HC0_0.out); (case side3 => repeat (first | exact (Kd.C_below HR0_1.out HB.out))); (case side4 => exact HC0_1.out); (case side5 => repeat (first | exact (Kd.C_below HR0_2.out HB.out))); (case side6 => exact HC0_2.out); (case side7 => repeat (first | exact (Kd.C_below HR0_3.out HB.out))); (case side8 => exact HC0_3.out); (case side9 => repeat (first | exact (Kd.C_below HR0_4.out HB.out))); (case side10 => exact HC0_4.out); rintro e w15 ⟨v239, v242, v245, v248, v251, rfl, ho0, ho1, ho2, ho3, ho4, hb⟩; refine ⟨_, rfl, ?_⟩; have n0_ := Aside0.mk (Kd.R_lower ho0 (below_size HB.out)); have n1_ := Aside0.mk (Kd.R_lower ho1 (below_size HB.out)); have n2_ := Aside0.mk (Kd.R_lower ho2 (below_size HB.out)); have n3_ := Aside0.mk (Kd.R_lower ho3 (below_size HB.out)); have n4_ := Aside0.mk (Kd.R_lower ho4 (below_size HB.out)); have n5_ := Aside0.mk (blk_below BK235.out hb); have n6_ := Aside0.mk (blk_below BK236.out hb); have n7_ := Aside0.mk (below_step HB.out hb); clear BK235; clear BK236; clear HB; have HO240 := n0_; have HO243 := n1_; have HO246 := n2_; have HO249 := n3_; have HO252 := n4_; have BK235 := n5_; have BK236 := n6_; have HB := n7_; clear n0_ n1_ n2_ n3_ n4_ n5_ n6_ n7_; (try clear hb); (try clear hb2); (try clear hk); (try clear hi); (try clear ho0); (try clear ho1); (try clear ho2); (try clear ho3); (try clear ho4)) | ((with_reducible refine gate_dst (N := 8) rfl ?_); refine box_event ?hg (N := 8) ?hd (cs := #[.slice none 0 0, .slice none 0 0, .slice none 0 0, .slice none 0 0, .slice none 0 0]) (t := 27) ?hr ?_; (case hd => rfl); (case hg => rfl); (case hr => first | (go_simp; done)); intro gb253 hg w16 hbox hb; have n0_ := Aside0.mk (Kd.R_below HO240.out hb); have n1_ := Aside0.mk (Kd.R_below HO243.out hb); have n2_ := Aside0.mk (Kd.R_below HO246.out hb); have n3_ := Aside0.mk (Kd.R_below HO249.out hb); have n4_ := Aside0.mk (Kd.R_below HO252.out hb); have n5_ := Aside0.mk (blk_below BK235.out hb); have n6_ := Aside0.mk (blk_below BK236.out hb); have n7_ := Aside0.mk (below_step HB.out hb); have n8_ := Aside0.mk (hbox); have n9_ := Aside0.mk ((by rw [hg]; exact (below_size HB.out) : w.heap.size ≤ gb253)); have n10_ := Aside0.mk ((by rw [hg]; exact (below_size HB.out) : w.heap.size ≤ gb253)); have n11_ := Aside0.mk ((by rw [hg]; exact Nat.ne_of_lt (blk_lt BK235.out) : gb235 ≠ gb253)); have n12_ := Aside0.mk ((by rw [hg]; exact Nat.ne_of_gt (blk_lt BK235.out) : gb253 ≠ gb235)); have n13_ := Aside0.mk ((by rw [hg]; exact Nat.ne_of_lt (blk_lt BK236.out) : gb236 ≠ gb253)); have n14_ := Aside0.mk ((by rw [hg]; exact Nat.ne_of_gt (blk_lt BK236.out) : gb253 ≠ gb236)); clear HO240; clear HO243; clear HO246; clear HO249; clear HO252; clear BK235; clear BK236; clear HB; have HO240 := n0_; have HO243 := n1_; have HO246 := n2_; have HO249 := n3_; have HO252 := n4_; have BK235 := n5_; have BK236 := n6_; have HB := n7_; have BK253 := n8_; have GW253 := n9_; have GE253 := n10_; have NB235_253 := n11_; have NB253_235 := n12_; have NB236_253 := n13_; have NB253_236 := n14_; clear n0_ n1_ n2_ n3_ n4_ n5_ n6_ n7_ n8_ n9_ n10_ n11_ n12_ n13_ n14_; clear hb hbox hg; obtain ⟨Ao17, co17, eo17⟩ := Kd.R_slice HO240.out; subst eo17; have hnb18 := NB253_235.out; have hnc18 := NB235_253.out; have hnb19 := NB253_236.out; have hnc19 := NB236_253.out; have hcz20_0 : w16.cell? ⟨gb253, 0, none⟩ = some (.slice none 0 0) := (blk_cell BK253.out 0).trans rfl; have hcz20_1 : w16.cell? ⟨gb253, 1, none⟩ = some (.slice none 0 0) := (blk_cell BK253.out 1).trans rfl; have hcz20_2 : w16.cell? ⟨gb253, 2, none⟩ = some (.slice none 0 0) := (blk_cell BK253.out 2).trans rfl; have hcz20_3 : w16.cell? ⟨gb253, 3, none⟩ = some (.slice none 0 0) := (blk_cell BK253.out 3).trans rfl; have hcz20_4 : w16.cell? ⟨gb253, 4, none⟩ = some (.slice none 0 0) := (blk_cell BK253.out 4).trans rfl; have hfz20_0 := blk_frozen BK253.out 0; have hfz20_1 := blk_frozen BK253.out 1; have hfz20_2 := blk_frozen BK253.out 2; have hfz20_3 := blk_frozen BK253.out 3; have hfz20_4 := blk_frozen BK253.out 4; obtain ⟨Ao21, co21, eo21⟩ := Kd.R_slice HO243.out; subst eo21; obtain ⟨Ao22, co22, eo22⟩ := Kd.R_slice HO246.out; subst eo22; obtain ⟨Ao23, co23, eo23⟩ := Kd.R_slice HO249.out; subst eo23; obtain ⟨Ao24, co24, eo24⟩ := Kd.R_slice HO252.out; subst eo24; have hcz25_0 : w16.cell? ⟨gb236, 0, none⟩ = some (.int .i64 a1_0) := (blk_cell BK236.out 0).trans rfl; have hcz25_1 : w16.cell? ⟨gb236, 1, none⟩ = some (.int .i64 a1_1) := (blk_cell BK236.out 1).trans rfl; have hcz25_2 : w16.cell? ⟨gb236, 2, none⟩ = some (.slice A1_2 l1_2.length c1_2) := (blk_cell BK236.out 2).trans rfl; have hcz25_3 : w16.cell? ⟨gb236, 3, none⟩ = some (.slice A1_3 l1_3.length c1_3) := (blk_cell BK236.out 3).trans rfl; have hfz25_0 := blk_frozen BK236.out 0; have hfz25_1 := blk_frozen BK236.out 1; have hfz25_2 := blk_frozen BK236.out 2; have hfz25_3 := blk_frozen BK236.out 3) | ((with_reducible refine gate_callee (f := 15) rfl ?_); refine goesL_ (some 16) rfl rfl Tryd.func15 (by kernel_rfl) rfl #[.agg #[.int .i64 a1_0, .int .i64 a1_1, .slice A1_2 l1_2.length c1_2, .slice A1_3 l1_3.length c1_3]] rfl (by (try simp only [List.map_toArray, List.map_cons, List.map_nil]); first | rfl) ?_; (with_reducible refine (proofmarkref30_Fit.calls k a1_0 a1_1 _ _ l1_2 _ _ l1_3 t254 t255 t256 t259 _ ?side1 ?side2 ?side3 ?side4 A6.out).mono ?_); (case side1 => exact Kd.C_below HR1_2.out (by repeat (first | (with_reducible first | exact HB.out | refine below_set ?_ GE253.out)))); (case side2 => exact HC1_2.out); (case side3 => exact Kd.C_below HR1_3.out (by repeat (first | (with_reducible first | exact HB.out | refine below_set ?_ GE253.out)))); (case side4 => exact HC1_3.out); rintro e w26 ⟨v257, v260, rfl, ho0, ho1, hb⟩; refine ⟨_, rfl, ?_⟩; have n0_ := Aside0.mk (Kd.R_below (by exact (Kd.R_mono (Kd.R_far (p := ⟨gb253, 4, none⟩) (Kd.R_far (p := ⟨gb253, 3, none⟩) (Kd.R_far (p := ⟨gb253, 2, none⟩) (Kd.R_far (p := ⟨gb253, 1, none⟩) (Kd.R_far (p := ⟨gb253, 0, none⟩) (Kd.R_types HO240.out BK253.out (by decide)) (fun _ hk => hk.2) (.slice Ao17 t238.length co17)) (fun _ hk => hk.2) (.slice Ao21 t241.length co21)) (fun _ hk => hk.2) (.slice Ao22 t244.length co22)) (fun _ hk => hk.2) (.slice Ao23 t247.length co23)) (fun _ hk => hk.2) (.slice Ao24 t250.length co24)) (fun _ h_ => h_.1))) hb); have n1_ := Aside0.mk (Kd.R_below (by exact (Kd.R_mono (Kd.R_far (p := ⟨gb253, 4, none⟩) (Kd.R_far (p := ⟨gb253, 3, none⟩) (Kd.R_far (p := ⟨gb253, 2, none⟩) (Kd.R_far (p := ⟨gb253, 1, none⟩) (Kd.R_far (p := ⟨gb253, 0, none⟩) (Kd.R_types HO243.out BK253.out (by decide)) (fun _ hk => hk.2) (.slice Ao17 t238.length co17)) (fun _ hk => hk.2) (.slice Ao21 t241.length co21)) (fun _ hk => hk.2) (.slice Ao22 t244.length co22)) (fun _ hk => hk.2) (.slice Ao23 t247.length co23)) (fun _ hk => hk.2) (.slice Ao24 t250.length co24)) (fun _ h_ => h_.1))) hb); have n2_ := Aside0.mk (Kd.R_below (by exact (Kd.R_mono (Kd.R_far (p := ⟨gb253, 4, none⟩) (Kd.R_far (p := ⟨gb253, 3, none⟩) (Kd.R_far (p := ⟨gb253, 2, none⟩) (Kd.R_far (p := ⟨gb253, 1, none⟩) (Kd.R_far (p := ⟨gb253, 0, none⟩) (Kd.R_types HO246.out BK253.out (by decide)) (fun _ hk => hk.2) (.slice Ao17 t238.length co17)) (fun _ hk => hk.2) (.slice Ao21 t241.length co21)) (fun _ hk => hk.2) (.slice Ao22 t244.length co22)) (fun _ hk => hk.2) (.slice Ao23 t247.length co23)) (fun _ hk => hk.2) (.slice Ao24 t250.length co24)) (fun _ h_ => h_.1))) hb); have n3_ := Aside0.mk (Kd.R_below (by exact (Kd.R_mono (Kd.R_far (p := ⟨gb253, 4, none⟩) (Kd.R_far (p := ⟨gb253, 3, none⟩) (Kd.R_far (p := ⟨gb253, 2, none⟩) (Kd.R_far (p := ⟨gb253, 1, none⟩) (Kd.R_far (p := ⟨gb253, 0, none⟩) (Kd.R_types HO249.out BK253.out (by decide)) (fun _ hk => hk.2) (.slice Ao17 t238.length co17)) (fun _ hk => hk.2) (.slice Ao21 t241.length co21)) (fun _ hk => hk.2) (.slice Ao22 t244.length co22)) (fun _ hk => hk.2) (.slice Ao23 t247.length co23)) (fun _ hk => hk.2) (.slice Ao24 t250.length co24)) (fun _ h_ => h_.1))) hb); have n4_ := Aside0.mk (Kd.R_below (by exact (Kd.R_mono (Kd.R_far (p := ⟨gb253, 4, none⟩) (Kd.R_far (p := ⟨gb253, 3, none⟩) (Kd.R_far (p := ⟨gb253, 2, none⟩) (Kd.R_far (p := ⟨gb253, 1, none⟩) (Kd.R_far (p := ⟨gb253, 0, none⟩) (Kd.R_types HO252.out BK253.out (by decide)) (fun _ hk => hk.2) (.slice Ao17 t238.length co17)) (fun _ hk => hk.2) (.slice Ao21 t241.length co21)) (fun _ hk => hk.2) (.slice Ao22 t244.length co22)) (fun _ hk => hk.2) (.slice Ao23 t247.length co23)) (fun _ hk => hk.2) (.slice Ao24 t250.length co24)) (fun _ h_ => h_.1))) hb); have n5_ := Aside0.mk (Kd.S_lower ho0 (below_size (by repeat (first | (with_reducible first | exact HB.out | refine below_set ?_ GE253.out))))); have n6_ := Aside0.mk (Kd.S_lower ho1 (below_size (by repeat (first | (with_reducible first | exact HB.out | refine below_set ?_ GE253.out))))); have n7_ := Aside0.mk (blk_below (g := gb235) (o := .cells #[.slice A0_0 l0_0.length c0_0, .slice A0_1 l0_1.length c0_1, .slice A0_2 l0_2.length c0_2, .slice A0_3 l0_3.length c0_3, .slice A0_4 l0_4.length c0_4] 27 (0, 0)) (by refine blk_far ?_ NB235_253.out _; refine blk_far ?_ NB235_253.out _; refine blk_far ?_ NB235_253.out _; refine blk_far ?_ NB235_253.out _; refine blk_far ?_ NB235_253.out _; exact BK235.out) hb); have n8_ := Aside0.mk (blk_below (g := gb236) (o := .cells #[.int .i64 a1_0, .int .i64 a1_1, .slice A1_2 l1_2.length c1_2, .slice A1_3 l1_3.length c1_3] 30 (0, 0)) (by refine blk_far ?_ NB236_253.out _; refine blk_far ?_ NB236_253.out _; refine blk_far ?_ NB236_253.out _; refine blk_far ?_ NB236_253.out _; refine blk_far ?_ NB236_253.out _; exact BK236.out) hb); have n9_ := Aside0.mk (blk_below (g := gb253) (o := .cells #[.slice Ao17 t238.length co17, .slice Ao21 t241.length co21, .slice Ao22 t244.length co22, .slice Ao23 t247.length co23, .slice Ao24 t250.length co24] 27 (0, 0)) (by refine blk_put (cs := #[.slice Ao17 t238.length co17, .slice Ao21 t241.length co21, .slice Ao22 t244.length co22, .slice Ao23 t247.length co23, .slice none 0 0]) ?_ 4 _ rfl; refine blk_put (cs := #[.slice Ao17 t238.length co17, .slice Ao21 t241.length co21, .slice Ao22 t244.length co22, .slice none 0 0, .slice none 0 0]) ?_ 3 _ rfl; refine blk_put (cs := #[.slice Ao17 t238.length co17, .slice Ao21 t241.length co21, .slice none 0 0, .slice none 0 0, .slice none 0 0]) ?_ 2 _ rfl; refine blk_put (cs := #[.slice Ao17 t238.length co17, .slice none 0 0, .slice none 0 0, .slice none 0 0, .slice none 0 0]) ?_ 1 _ rfl; refine blk_put (cs := #[.slice none 0 0, .slice none 0 0, .slice none 0 0, .slice none 0 0, .slice none 0 0]) ?_ 0 _ rfl; exact BK253.out) hb); have n10_ := Aside0.mk (below_step (by repeat (first | (with_reducible first | exact HB.out | refine below_set ?_ GE253.out))) hb); clear HO240; clear HO243; clear HO246; clear HO249; clear HO252; clear BK235; clear BK236; clear BK253; clear HB; have HO240 := n0_; have HO243 := n1_; have HO246 := n2_; have HO249 := n3_; have HO252 := n4_; have HO258 := n5_; have HO261 := n6_; have BK235 := n7_; have BK236 := n8_; have BK253 := n9_; have HB := n10_; clear n0_ n1_ n2_ n3_ n4_ n5_ n6_ n7_ n8_ n9_ n10_; (try clear hb); (try clear hb2); (try clear hk); (try clear hi); (try clear ho0); (try clear ho1)) | ((with_reducible refine gate_dst (N := 9) rfl ?_); refine box_event ?hg (N := 9) ?hd (cs := #[.int .i64 0, .int .i64 0, .slice none 0 0, .slice none 0 0]) (t := 30) ?hr ?_; (case hd => rfl); (case hg => rfl); (case hr => first | (go_simp; done)); intro gb262 hg w27 hbox hb; have n0_ := Aside0.mk (Kd.R_below HO240.out hb); have n1_ := Aside0.mk (Kd.R_below HO243.out hb); have n2_ := Aside0.mk (Kd.R_below HO246.out hb); have n3_ := Aside0.mk (Kd.R_below HO249.out hb); have n4_ := Aside0.mk (Kd.R_below HO252.out hb); have n5_ := Aside0.mk (Kd.S_below HO258.out hb); have n6_ := Aside0.mk (Kd.S_below HO261.out hb); have n7_ := Aside0.mk (blk_below BK235.out hb); have n8_ := Aside0.mk (blk_below BK236.out hb); have n9_ := Aside0.mk (blk_below BK253.out hb); have n10_ := Aside0.mk (below_step HB.out hb); have n11_ := Aside0.mk (hbox); have n12_ := Aside0.mk ((by rw [hg]; exact (below_size HB.out) : w.heap.size ≤ gb262)); have n13_ := Aside0.mk ((by rw [hg]; exact (below_size HB.out) : w.heap.size ≤ gb262)); have n14_ := Aside0.mk ((by rw [hg]; exact Nat.ne_of_lt (blk_lt BK235.out) : gb235 ≠ gb262)); have n15_ := Aside0.mk ((by rw [hg]; exact Nat.ne_of_gt (blk_lt BK235.out) : gb262 ≠ gb235)); have n16_ := Aside0.mk ((by rw [hg]; exact Nat.ne_of_lt (blk_lt BK236.out) : gb236 ≠ gb262)); have n17_ := Aside0.mk ((by rw [hg]; exact Nat.ne_of_gt (blk_lt BK236.out) : gb262 ≠ gb236)); have n18_ := Aside0.mk ((by rw [hg]; exact Nat.ne_of_lt (blk_lt BK253.out) : gb253 ≠ gb262)); have n19_ := Aside0.mk ((by rw [hg]; exact Nat.ne_of_gt (blk_lt BK253.out) : gb262 ≠ gb253)); clear HO240; clear HO243; clear HO246; clear HO249; clear HO252; clear HO258; clear HO261; clear BK235; clear BK236; clear BK253; clear HB; have HO240 := n0_; have HO243 := n1_; have HO246 := n2_; have HO249 := n3_; have HO252 := n4_; have HO258 := n5_; have HO261 := n6_; have BK235 := n7_; have BK236 := n8_; have BK253 := n9_; have HB := n10_; have BK262 := n11_; have GW262 := n12_; have GE262 := n13_; have NB235_262 := n14_; have NB262_235 := n15_; have NB236_262 := n16_; have NB262_236 := n17_; have NB253_262 := n18_; have NB262_253 := n19_; clear n0_ n1_ n2_ n3_ n4_ n5_ n6_ n7_ n8_ n9_ n10_ n11_ n12_ n13_ n14_ n15_ n16_ n17_ n18_ n19_; clear hb hbox hg; have hnb28 := NB262_235.out; have hnc28 := NB235_262.out; have hnb29 := NB262_236.out; have hnc29 := NB236_262.out; have hnb30 := NB262_253.out; have hnc30 := NB253_262.out; have hcz31_0 : w27.cell? ⟨gb262, 0, none⟩ = some (.int .i64 0) := (blk_cell BK262.out 0).trans rfl; have hcz31_1 : w27.cell? ⟨gb262, 1, none⟩ = some (.int .i64 0) := (blk_cell BK262.out 1).trans rfl; have hcz31_2 : w27.cell? ⟨gb262, 2, none⟩ = some (.slice none 0 0) := (blk_cell BK262.out 2).trans rfl; have hcz31_3 : w27.cell? ⟨gb262, 3, none⟩ = some (.slice none 0 0) := (blk_cell BK262.out 3).trans rfl; have hfz31_0 := blk_frozen BK262.out 0; have hfz31_1 := blk_frozen BK262.out 1; have hfz31_2 := blk_frozen BK262.out 2; have hfz31_3 := blk_frozen BK262.out 3; obtain ⟨Ao32, co32, eo32⟩ := Kd.S_slice HO258.out; subst eo32; obtain ⟨Ao33, co33, eo33⟩ := Kd.S_slice HO261.out; subst eo33) | ((with_reducible refine gate_store (t := 30) (p := 9) rfl ?_); refine store_event (t := 30) (p := 9) (v := ?vo_w34) (w1 := ((((w27.setCell ⟨gb262, 0, none⟩ (.int .i64 t254)).setCell ⟨gb262, 1, none⟩ (.int .i64 t255)).setCell ⟨gb262, 2, none⟩ (.slice Ao32 t256.length co32)).setCell ⟨gb262, 3, none⟩ (.slice Ao33 t259.length co33))) ?hg ?ho ?hn ?hr ?_; (case ho => rfl); (case hg => rfl); (case hn => rfl); (case hr => first | (go_simp; done)); intro w34 hw; have n0_ : Aside0 (Kd.R k96 96 w34 w.heap.size (fun _ => True) (.slice Ao17 t238.length co17) t238) := ⟨(by rw [hw]; exact (by exact Kd.R_mono (Kd.R_far (p := ⟨gb262, 3, none⟩) (Kd.R_far (p := ⟨gb262, 2, none⟩) (Kd.R_far (p := ⟨gb262, 1, none⟩) (Kd.R_far (p := ⟨gb262, 0, none⟩) (Kd.R_types HO240.out BK262.out (by decide)) (fun _ hk => hk.2) (.int .i64 t254)) (fun _ hk => hk.2) (.int .i64 t255)) (fun _ hk => hk.2) (.slice Ao32 t256.length co32)) (fun _ hk => hk.2) (.slice Ao33 t259.length co33)) (fun _ hk => trivial)))⟩; have n1_ : Aside0 (Kd.R k111 111 w34 w.heap.size (fun k_ => some k_ ≠ (.slice Ao24 t250.length co24 : Value).ownBlock) (.slice Ao21 t241.length co21) t241) := ⟨(by rw [hw]; exact (by exact Kd.R_mono (Kd.R_far (p := ⟨gb262, 3, none⟩) (Kd.R_far (p := ⟨gb262, 2, none⟩) (Kd.R_far (p := ⟨gb262, 1, none⟩) (Kd.R_far (p := ⟨gb262, 0, none⟩) (Kd.R_types HO243.out BK262.out (by decide)) (fun _ hk => hk.2) (.int .i64 t254)) (fun _ hk => hk.2) (.int .i64 t255)) (fun _ hk => hk.2) (.slice Ao32 t256.length co32)) (fun _ hk => hk.2) (.slice Ao33 t259.length co33)) (fun _ hk => hk.1)))⟩; have n2_ : Aside0 (Kd.R k94 94 w34 w.heap.size (fun _ => True) (.slice Ao22 t244.length co22) t244) := ⟨(by rw [hw]; exact (by exact Kd.R_mono (Kd.R_far (p := ⟨gb262, 3, none⟩) (Kd.R_far (p := ⟨gb262, 2, none⟩) (Kd.R_far (p := ⟨gb262, 1, none⟩) (Kd.R_far (p := ⟨gb262, 0, none⟩) (Kd.R_types HO246.out BK262.out (by decide)) (fun _ hk => hk.2) (.int .i64 t254)) (fun _ hk => hk.2) (.int .i64 t255)) (fun _ hk => hk.2) (.slice Ao32 t256.length co32)) (fun _ hk => hk.2) (.slice Ao33 t259.length co33)) (fun _ hk => trivial)))⟩; have n3_ : Aside0 (Kd.R k73 73 w34 w.heap.size (fun _ => True) (.slice Ao23 t247.length co23) t247) := ⟨(by rw [hw]; exact (by exact Kd.R_mono (Kd.R_far (p := ⟨gb262, 3, none⟩) (Kd.R_far (p := ⟨gb262, 2, none⟩) (Kd.R_far (p := ⟨gb262, 1, none⟩) (Kd.R_far (p := ⟨gb262, 0, none⟩) (Kd.R_types HO249.out BK262.out (by decide)) (fun _ hk => hk.2) (.int .i64 t254)) (fun _ hk => hk.2) (.int .i64 t255)) (fun _ hk => hk.2) (.slice Ao32 t256.length co32)) (fun _ hk => hk.2) (.slice Ao33 t259.length co33)) (fun _ hk => trivial)))⟩; have n4_ : Aside0 (Kd.R k111 111 w34 w.heap.size (fun k_ => some k_ ≠ (.slice Ao21 t241.length co21 : Value).ownBlock) (.slice Ao24 t250.length co24) t250) := ⟨(by rw [hw]; exact (by exact Kd.R_mono (Kd.R_far (p := ⟨gb262, 3, none⟩) (Kd.R_far (p := ⟨gb262, 2, none⟩) (Kd.R_far (p := ⟨gb262, 1, none⟩) (Kd.R_far (p := ⟨gb262, 0, none⟩) (Kd.R_types HO252.out BK262.out (by decide)) (fun _ hk => hk.2) (.int .i64 t254)) (fun _ hk => hk.2) (.int .i64 t255)) (fun _ hk => hk.2) (.slice Ao32 t256.length co32)) (fun _ hk => hk.2) (.slice Ao33 t259.length co33)) (fun _ hk => hk.1)))⟩; have n5_ : Aside0 (Kd.S (Kd.slice 3 (Kd.int .i64)) 55 w34 w.heap.size (fun k_ => some k_ ≠ (.slice Ao33 t259.length co33 : Value).ownBlock) (.slice Ao32 t256.length co32) t256) := ⟨(by rw [hw]; exact (by exact Kd.S_mono (Kd.S_far (p := ⟨gb262, 3, none⟩) (Kd.S_far (p := ⟨gb262, 2, none⟩) (Kd.S_far (p := ⟨gb262, 1, none⟩) (Kd.S_far (p := ⟨gb262, 0, none⟩) (Kd.S_types HO258.out BK262.out (by decide)) (fun _ hk => hk.2) (.int .i64 t254)) (fun _ hk => hk.2) (.int .i64 t255)) (fun _ hk => hk.2) (.slice Ao32 t256.length co32)) (fun _ hk => hk.2) (.slice Ao33 t259.length co33)) (fun _ hk => hk.1)))⟩; have n6_ : Aside0 (Kd.S (Kd.slice 3 (Kd.int .i64)) 55 w34 w.heap.size (fun k_ => some k_ ≠ (.slice Ao32 t256.length co32 : Value).ownBlock) (.slice Ao33 t259.length co33) t259) := ⟨(by rw [hw]; exact (by exact Kd.S_mono (Kd.S_far (p := ⟨gb262, 3, none⟩) (Kd.S_far (p := ⟨gb262, 2, none⟩) (Kd.S_far (p := ⟨gb262, 1, none⟩) (Kd.S_far (p := ⟨gb262, 0, none⟩) (Kd.S_types HO261.out BK262.out (by decide)) (fun _ hk => hk.2) (.int .i64 t254)) (fun _ hk => hk.2) (.int .i64 t255)) (fun _ hk => hk.2) (.slice Ao32 t256.length co32)) (fun _ hk => hk.2) (.slice Ao33 t259.length co33)) (fun _ hk => hk.1)))⟩; have n7_ : Aside0 (w34.heap[gb235]? = some (.cells #[.slice A0_0 l0_0.length c0_0, .slice A0_1 l0_1.length c0_1, .slice A0_2 l0_2.length c0_2, .slice A0_3 l0_3.length c0_3, .slice A0_4 l0_4.length c0_4] 27 (0, 0))) := ⟨(by rw [hw]; exact (by refine blk_far ?_ NB235_262.out _; refine blk_far ?_ NB235_262.out _; refine blk_far ?_ NB235_262.out _; refine blk_far ?_ NB235_262.out _; exact BK235.out))⟩; have n8_ : Aside0 (w34.heap[gb236]? = some (.cells #[.int .i64 a1_0, .int .i64 a1_1, .slice A1_2 l1_2.length c1_2, .slice A1_3 l1_3.length c1_3] 30 (0, 0))) := ⟨(by rw [hw]; exact (by refine blk_far ?_ NB236_262.out _; refine blk_far ?_ NB236_262.out _; refine blk_far ?_ NB236_262.out _; refine blk_far ?_ NB236_262.out _; exact BK236.out))⟩; have n9_ : Aside0 (w34.heap[gb253]? = some (.cells #[.slice Ao17 t238.length co17, .slice Ao21 t241.length co21, .slice Ao22 t244.length co22, .slice Ao23 t247.length co23, .slice Ao24 t250.length co24] 27 (0, 0))) := ⟨(by rw [hw]; exact (by refine blk_far ?_ NB253_262.out _; refine blk_far ?_ NB253_262.out _; refine blk_far ?_ NB253_262.out _; refine blk_far ?_ NB253_262.out _; exact BK253.out))⟩; have n10_ : Aside0 (w34.heap[gb262]? = some (.cells #[.int .i64 t254, .int .i64 t255, .slice Ao32 t256.length co32, .slice Ao33 t259.length co33] 30 (0, 0))) := ⟨(by rw [hw]; exact (by refine blk_put (cs := #[.int .i64 t254, .int .i64 t255, .slice Ao32 t256.length co32, .slice none 0 0]) ?_ 3 _ rfl; refine blk_put (cs := #[.int .i64 t254, .int .i64 t255, .slice none 0 0, .slice none 0 0]) ?_ 2 _ rfl; refine blk_put (cs := #[.int .i64 t254, .int .i64 0, .slice none 0 0, .slice none 0 0]) ?_ 1 _ rfl; refine blk_put (cs := #[.int .i64 0, .int .i64 0, .slice none 0 0, .slice none 0 0]) ?_ 0 _ rfl; exact BK262.out))⟩; have n11_ : Aside0 (Below w.heap.size w w34) := ⟨(by rw [hw]; exact (by repeat (first | (with_reducible first | exact HB.out | refine below_set ?_ GE262.out))))⟩; clear hw; clear HO240; clear HO243; clear HO246; clear HO249; clear HO252; clear HO258; clear HO261; clear BK235; clear BK236; clear BK253; clear BK262; clear HB; have HO240 := n0_; have HO243 := n1_; have HO246 := n2_; have HO249 := n3_; have HO252 := n4_; have HO258 := n5_; have HO261 := n6_; have BK235 := n7_; have BK236 := n8_; have BK253 := n9_; have BK262 := n10_; have HB := n11_; clear n0_ n1_ n2_ n3_ n4_ n5_ n6_ n7_ n8_ n9_ n10_ n11_; have q35 : ((ji7) : Int) ≤ ((l2.length : Int) : Int) := of_decide_eq_true (by first | (with_reducible assumption)); obtain ⟨i035, hi035, _, hsz35, _⟩ := info_parts info40; have hroom35 : l2.length ≤ c2 := HC2.out; have hC35 : Kd.C k40 _ A2 l2.length l2 := HR2.out; have hcut35 := cut_to (P := Tryd.prog) 31 40 .i64 Tryd.underlying31 hi035 A2 l2.length c2 (ji7) (of_decide_eq_true (by first | (with_reducible assumption))) q35 hroom35; have hr35 := Kd.C_take (m := ((ji7) : Int).toNat) hC35 (by omega); have hy35 : y263.length = ((ji7) : Int).toNat := (by rw [Ny263.out, List.length_take]; omega); rw [← Ny263.out] at hr35; rw [← hy35] at hcut35; have HR266 := Aside0.mk hr35; have HC266 := Aside0.mk (show y263.length ≤ c2 from by omega); clear hr35 hC35 hroom35 hi035 hsz35; have KY35 := Aside0.mk hy35; clear hy35; replace q35 := eq_true q35))
      try simp only [Act.put, List.setIfInBounds_toArray, List.set_cons_succ, List.set_cons_zero]
      go_loopg [11] k (fun kq v11 w' => ∃ (x11_1 : Int), v11 = .int .i64 x11_1 ∧ Aside0 (proofmarklaw30_ReportTells.l0 kq t237 y263 x11_1 t238 t241 t244 t247 t250 t254 t255 t256 t259 = some r) ∧ Aside0 (kq ≤ k) ∧ Aside0 (Kd.R k96 96 w' w.heap.size (fun _ => True) (.slice Ao17 t238.length co17) t238) ∧ Aside0 (Kd.R k111 111 w' w.heap.size (fun k_ => some k_ ≠ ((.slice Ao24 t250.length co24) : Value).ownBlock) (.slice Ao21 t241.length co21) t241) ∧ Aside0 (Kd.R k94 94 w' w.heap.size (fun _ => True) (.slice Ao22 t244.length co22) t244) ∧ Aside0 (Kd.R k73 73 w' w.heap.size (fun _ => True) (.slice Ao23 t247.length co23) t247) ∧ Aside0 (Kd.R k111 111 w' w.heap.size (fun k_ => some k_ ≠ ((.slice Ao21 t241.length co21) : Value).ownBlock) (.slice Ao24 t250.length co24) t250) ∧ Aside0 (Kd.S (Kd.slice 3 (Kd.int .i64)) 55 w' w.heap.size (fun k_ => some k_ ≠ ((.slice Ao33 t259.length co33) : Value).ownBlock) (.slice Ao32 t256.length co32) t256) ∧ Aside0 (Kd.S (Kd.slice 3 (Kd.int .i64)) 55 w' w.heap.size (fun k_ => some k_ ≠ ((.slice Ao32 t256.length co32) : Value).ownBlock) (.slice Ao33 t259.length co33) t259) ∧ Aside0 (w'.heap[gb235]? = some (.cells #[(.slice A0_0 l0_0.length c0_0), (.slice A0_1 l0_1.length c0_1), (.slice A0_2 l0_2.length c0_2), (.slice A0_3 l0_3.length c0_3), (.slice A0_4 l0_4.length c0_4)] 27 (0, 0))) ∧ Aside0 (w'.heap[gb236]? = some (.cells #[.int .i64 a1_0, .int .i64 a1_1, (.slice A1_2 l1_2.length c1_2), (.slice A1_3 l1_3.length c1_3)] 30 (0, 0))) ∧ Aside0 (w'.heap[gb253]? = some (.cells #[(.slice Ao17 t238.length co17), (.slice Ao21 t241.length co21), (.slice Ao22 t244.length co22), (.slice Ao23 t247.length co23), (.slice Ao24 t250.length co24)] 27 (0, 0))) ∧ Aside0 (w'.heap[gb262]? = some (.cells #[.int .i64 t254, .int .i64 t255, (.slice Ao32 t256.length co32), (.slice Ao33 t259.length co33)] 30 (0, 0))) ∧ Aside0 (Below w.heap.size w w'))
      case atStart => exact ⟨((-1)), rfl, H', ⟨Nat.le_refl _⟩, ⟨by exact HO240.out⟩, ⟨by exact HO243.out⟩, ⟨by exact HO246.out⟩, ⟨by exact HO249.out⟩, ⟨by exact HO252.out⟩, ⟨by exact HO258.out⟩, ⟨by exact HO261.out⟩, ⟨by exact BK235.out⟩, ⟨by exact BK236.out⟩, ⟨by exact BK253.out⟩, ⟨by exact BK262.out⟩, ⟨by exact HB.out⟩⟩
      case round =>
        clear H'
        try clear c1
        try clear c2
        try clear p2
        try clear c3
        try clear q3
        try clear c8
        try clear c8b0
        try clear c8b1
        try clear c9
        try clear c9b0
        try clear c9b1
        try clear c13
        try clear c14
        try clear c15
        try clear c18
        try clear c19
        try clear c28
        try clear c29
        try clear c30
        try clear q35
        try clear hcz14_0
        try clear hcz14_1
        try clear hcz14_2
        try clear hcz14_3
        try clear hcz14_4
        try clear hcz20_0
        try clear hcz20_1
        try clear hcz20_2
        try clear hcz20_3
        try clear hcz20_4
        try clear hcz25_0
        try clear hcz25_1
        try clear hcz25_2
        try clear hcz25_3
        try clear hcz31_0
        try clear hcz31_1
        try clear hcz31_2
        try clear hcz31_3
        try clear hfz14_0
        try clear hfz14_1
        try clear hfz14_2
        try clear hfz14_3
        try clear hfz14_4
        try clear hfz20_0
        try clear hfz20_1
        try clear hfz20_2
        try clear hfz20_3
        try clear hfz20_4
        try clear hfz25_0
        try clear hfz25_1
        try clear hfz25_2
        try clear hfz25_3
        try clear hfz31_0
        try clear hfz31_1
        try clear hfz31_2
        try clear hfz31_3
        try clear q35
        obtain ⟨x11_1, rfl, HA, HK1, HO_254000, HO_254001, HO_254002, HO_254003, HO_254004, HO_263002, HO_263003, BK235, BK236, BK253, BK262, HB⟩ := hrel
        cases gk with
        | zero => exact absurd HA.out (by simp [proofmarklaw30_ReportTells.l0])
        | succ k1 =>
          have H := HA.out
          clear HA
          simp only [proofmarklaw30_ReportTells.l0] at H
          by_cases c36 : x11_1 ≤ (t247.length : Int)
          · rw [if_pos c36] at H
            have c36b0 : decide (x11_1 ≤ (t247.length : Int)) = true := decide_eq_true c36
            clear c36
            replace H := Option.bind_eq_some_iff.mp H
            obtain ⟨t269, A370, H⟩ := H
            replace H : ((proofmarkref30_Verdict.f k1 t238 t241 t244 t247 t250 x11_1 t254 t255 t256 t259).bind fun t270 => (if t269.toList = t270.toList then (proofmarklaw30_ReportTells.l0 k1 t237 y263 (wrap64 (x11_1 + 1)) t238 t241 t244 t247 t250 t254 t255 t256 t259) else (some false))) = some r := H
            have A37 := Aside0.mk A370
            clear A370
            replace H := Option.bind_eq_some_iff.mp H
            obtain ⟨t270, A380, H⟩ := H
            replace H : (if t269.toList = t270.toList then (proofmarklaw30_ReportTells.l0 k1 t237 y263 (wrap64 (x11_1 + 1)) t238 t241 t244 t247 t250 t254 t255 t256 t259) else (some false)) = some r := H
            have A38 := Aside0.mk A380
            clear A380
            by_cases c39 : t269.toList = t270.toList
            · rw [if_pos c39] at H
              have c39b0 : (t269.toList == t270.toList) = true := beq_iff_eq.mpr c39
              have c39b1 : (t269.toList != t270.toList) = false := bne_eq_false_iff_eq.mpr c39
              clear c39
              have H' := Aside0.mk H
              clear H
              have hnb40 := NB253_235.out
              have hnc40 := NB235_253.out
              have hnb41 := NB253_236.out
              have hnc41 := NB236_253.out
              have hnb42 := NB253_262.out
              have hnc42 := NB262_253.out
              have hcz43_0 : wr.cell? ⟨gb253, 0, none⟩ = some (.slice Ao17 t238.length co17) := (blk_cell BK253.out 0).trans rfl
              have hcz43_1 : wr.cell? ⟨gb253, 1, none⟩ = some (.slice Ao21 t241.length co21) := (blk_cell BK253.out 1).trans rfl
              have hcz43_2 : wr.cell? ⟨gb253, 2, none⟩ = some (.slice Ao22 t244.length co22) := (blk_cell BK253.out 2).trans rfl
              have hcz43_3 : wr.cell? ⟨gb253, 3, none⟩ = some (.slice Ao23 t247.length co23) := (blk_cell BK253.out 3).trans rfl
              have hcz43_4 : wr.cell? ⟨gb253, 4, none⟩ = some (.slice Ao24 t250.length co24) := (blk_cell BK253.out 4).trans rfl
              have hfz43_0 := blk_frozen BK253.out 0
              have hfz43_1 := blk_frozen BK253.out 1
              have hfz43_2 := blk_frozen BK253.out 2
              have hfz43_3 := blk_frozen BK253.out 3
              have hfz43_4 := blk_frozen BK253.out 4
              try go_wp2
              have n0_ := Aside0.mk (Kd.R_drew HO_254000.out)
              have n1_ := Aside0.mk (Kd.R_drew HO_254001.out)
              have n2_ := Aside0.mk (Kd.R_drew HO_254002.out)
              have n3_ := Aside0.mk (Kd.R_drew HO_254003.out)
              have n4_ := Aside0.mk (Kd.R_drew HO_254004.out)
              have n5_ := Aside0.mk (Kd.S_drew HO_263002.out)
              have n6_ := Aside0.mk (Kd.S_drew HO_263003.out)
              have n7_ := Aside0.mk (blk_drew BK235.out)
              have n8_ := Aside0.mk (blk_drew BK236.out)
              have n9_ := Aside0.mk (blk_drew BK253.out)
              have n10_ := Aside0.mk (blk_drew BK262.out)
              have n11_ := Aside0.mk (below_drew1 HB.out)
              clear HO_254000
              clear HO_254001
              clear HO_254002
              clear HO_254003
              clear HO_254004
              clear HO_263002
              clear HO_263003
              clear BK235
              clear BK236
              clear BK253
              clear BK262
              clear HB
              have HO_254000 := n0_
              have HO_254001 := n1_
              have HO_254002 := n2_
              have HO_254003 := n3_
              have HO_254004 := n4_
              have HO_263002 := n5_
              have HO_263003 := n6_
              have BK235 := n7_
              have BK236 := n8_
              have BK253 := n9_
              have BK262 := n10_
              have HB := n11_
              clear n0_ n1_ n2_ n3_ n4_ n5_ n6_ n7_ n8_ n9_ n10_ n11_
              refine start_ (n := 9) (S := fun w' => w'.cell? ⟨gb253, 0, none⟩ = some (.slice Ao17 t238.length co17) ∧ w'.cell? ⟨gb253, 1, none⟩ = some (.slice Ao21 t241.length co21) ∧ w'.cell? ⟨gb253, 2, none⟩ = some (.slice Ao22 t244.length co22) ∧ w'.cell? ⟨gb253, 3, none⟩ = some (.slice Ao23 t247.length co23) ∧ w'.cell? ⟨gb253, 4, none⟩ = some (.slice Ao24 t250.length co24) ∧ w'.cell? ⟨gb262, 0, none⟩ = some (.int .i64 t254) ∧ w'.cell? ⟨gb262, 1, none⟩ = some (.int .i64 t255) ∧ w'.cell? ⟨gb262, 2, none⟩ = some (.slice Ao32 t256.length co32) ∧ w'.cell? ⟨gb262, 3, none⟩ = some (.slice Ao33 t259.length co33)) (ds := []) #[false, false, false, false, false, false, false, false, false] (by kernel_rfl) rfl rfl ⟨(blk_cell BK253.out 0).trans rfl, (blk_cell BK253.out 1).trans rfl, (blk_cell BK253.out 2).trans rfl, (blk_cell BK253.out 3).trans rfl, (blk_cell BK253.out 4).trans rfl, (blk_cell BK262.out 0).trans rfl, (blk_cell BK262.out 1).trans rfl, (blk_cell BK262.out 2).trans rfl, (blk_cell BK262.out 3).trans rfl⟩ (fun hHeld => ?_); refine with_tabW proofmarklaw30_ReportTells.tab8 proofmarklaw30_ReportTells.bits8 (fun HT_ HW_ => ?_)
              generalize wr.drew = w44 at HO_254000 HO_254001 HO_254002 HO_254003 HO_254004 HO_263002 HO_263003 BK235 BK236 BK253 BK262 HB hHeld ⊢
              refine pure_ (i := 1) (N := some 30) (v := ?_) (a' := ?_) #[false, true, false, false, false, false, false, false, false] rfl rfl (any_of HT_.out (by kernel_rfl)) (fun _ _ _ h => h) (Or.inl ⟨by rfl, ?_⟩) ?_ ?_
              rotate_left
              · intro w'
                go_simp
                with_reducible rfl
              rotate_left
              · simp only [Act.put, List.setIfInBounds_toArray, List.set_cons_zero, List.set_cons_succ, i64_w, i32_w]
                rfl
              refine pure_ (i := 5) (N := some 34) (v := ?_) (a' := ?_) #[false, true, false, false, false, true, false, false, false] rfl rfl (any_of HT_.out (by kernel_rfl)) (fun _ _ _ h => h) (Or.inl ⟨by rfl, ?_⟩) ?_ ?_
              rotate_left
              · intro w'
                go_simp
                with_reducible rfl
              rotate_left
              · simp only [Act.put, List.setIfInBounds_toArray, List.set_cons_zero, List.set_cons_succ, i64_w, i32_w]
                rfl
              refine take_ (i := 0) (N := some 29) (v := ?_) (a' := ?_) #[true, true, false, false, false, true, false, false, false] rfl rfl (take_ofW HT_.out HW_.out (by kernel_rfl)) (fun _ _ _ h => h) (Or.inl ⟨by rfl, ?_⟩) hHeld ?_ ?_
              rotate_left
              · rintro w' ⟨s0, s1, s2, s3, s4, s5, s6, s7, s8⟩
                go_simp
                with_reducible rfl
              rotate_left
              · simp only [Act.put, List.setIfInBounds_toArray, List.set_cons_zero, List.set_cons_succ, i64_w, i32_w]
                rfl
              refine take_ (i := 2) (N := some 31) (v := ?_) (a' := ?_) #[true, true, true, false, false, true, false, false, false] rfl rfl (take_ofW HT_.out HW_.out (by kernel_rfl)) (fun _ _ _ h => h) (Or.inl ⟨by rfl, ?_⟩) hHeld ?_ ?_
              rotate_left
              · rintro w' ⟨s0, s1, s2, s3, s4, s5, s6, s7, s8⟩
                go_simp
                with_reducible rfl
              rotate_left
              · simp only [Act.put, List.setIfInBounds_toArray, List.set_cons_zero, List.set_cons_succ, i64_w, i32_w]
                rfl
              refine take_ (i := 4) (N := some 33) (v := ?_) (a' := ?_) #[true, true, true, false, true, true, false, false, false] rfl rfl (take_ofW HT_.out HW_.out (by kernel_rfl)) (fun _ _ _ h => h) (Or.inl ⟨by rfl, ?_⟩) hHeld ?_ ?_
              rotate_left
              · rintro w' ⟨s0, s1, s2, s3, s4, s5, s6, s7, s8⟩
                go_simp
                with_reducible rfl
              rotate_left
              · simp only [Act.put, List.setIfInBounds_toArray, List.set_cons_zero, List.set_cons_succ, i64_w, i32_w]
                rfl
              refine take_ (i := 6) (N := some 35) (v := ?_) (a' := ?_) #[true, true, true, false, true, true, true, false, false] rfl rfl (take_ofW HT_.out HW_.out (by kernel_rfl)) (fun _ _ _ h => h) (Or.inl ⟨by rfl, ?_⟩) hHeld ?_ ?_
              rotate_left
              · rintro w' ⟨s0, s1, s2, s3, s4, s5, s6, s7, s8⟩
                go_simp
                with_reducible rfl
              rotate_left
              · simp only [Act.put, List.setIfInBounds_toArray, List.set_cons_zero, List.set_cons_succ, i64_w, i32_w]
                rfl
              refine one_ (i := 3) (N := some 32) #[true, true, true, true, true, true, true, false, false] rfl rfl (one_of HT_.out (by kernel_rfl)) (by decide) (fun K hK => ?_)
              refine goes_ Tryd.func16 (by kernel_rfl) rfl #[.agg #[.slice Ao17 t238.length co17, .slice Ao21 t241.length co21, .slice Ao22 t244.length co22, .slice Ao23 t247.length co23, .slice Ao24 t250.length co24], .int .i64 x11_1, .agg #[.int .i64 t254, .int .i64 t255, .slice Ao32 t256.length co32, .slice Ao33 t259.length co33]] (by rfl) rfl rfl (by (try simp only [List.map_toArray, List.map_cons, List.map_nil]); first | rfl) ?_
              with_reducible refine (report_Verdict.calls k1 _ _ t238 _ _ t241 _ _ t244 _ _ t247 _ _ t250 x11_1 t254 t255 _ _ t256 _ _ t259 t269 _ (by first | (refine tab_below HG.out ?_; repeat (first | (with_reducible first | exact HB.out)))) ?side1 ?side2 ?side3 ?side4 ?side5 ?side6 ?side7 ?side8 ?side9 ?side10 ?side11 ?side12 ?side13 ?side14 A37.out).mono ?_
              (case side1 => repeat (first | exact (Kd.R_reads' HO_254000.out).2.2))
              (case side2 => exact (Kd.R_reads' HO_254000.out).2.1)
              (case side3 => repeat (first | exact (Kd.R_reads' HO_254001.out).2.2))
              (case side4 => exact (Kd.R_reads' HO_254001.out).2.1)
              (case side5 => repeat (first | exact (Kd.R_reads' HO_254002.out).2.2))
              (case side6 => exact (Kd.R_reads' HO_254002.out).2.1)
              (case side7 => repeat (first | exact (Kd.R_reads' HO_254003.out).2.2))
              (case side8 => exact (Kd.R_reads' HO_254003.out).2.1)
              (case side9 => repeat (first | exact (Kd.R_reads' HO_254004.out).2.2))
              (case side10 => exact (Kd.R_reads' HO_254004.out).2.1)
              (case side11 => repeat (first | exact (Kd.S_reads' HO_263002.out).2.2))
              (case side12 => exact (Kd.S_reads' HO_263002.out).2.1)
              (case side13 => repeat (first | exact (Kd.S_reads' HO_263003.out).2.2))
              (case side14 => exact (Kd.S_reads' HO_263003.out).2.1)
              rintro e w45 ⟨rfl, hb⟩
              refine ⟨_, rfl, ?_⟩
              have n0_ := Aside0.mk (Kd.R_below HO_254000.out hb)
              have n1_ := Aside0.mk (Kd.R_below HO_254001.out hb)
              have n2_ := Aside0.mk (Kd.R_below HO_254002.out hb)
              have n3_ := Aside0.mk (Kd.R_below HO_254003.out hb)
              have n4_ := Aside0.mk (Kd.R_below HO_254004.out hb)
              have n5_ := Aside0.mk (Kd.S_below HO_263002.out hb)
              have n6_ := Aside0.mk (Kd.S_below HO_263003.out hb)
              have n7_ := Aside0.mk (blk_below BK235.out hb)
              have n8_ := Aside0.mk (blk_below BK236.out hb)
              have n9_ := Aside0.mk (blk_below BK253.out hb)
              have n10_ := Aside0.mk (blk_below BK262.out hb)
              have n11_ := Aside0.mk (below_step HB.out hb)
              clear HO_254000
              clear HO_254001
              clear HO_254002
              clear HO_254003
              clear HO_254004
              clear HO_263002
              clear HO_263003
              clear BK235
              clear BK236
              clear BK253
              clear BK262
              clear HB
              have HO_254000 := n0_
              have HO_254001 := n1_
              have HO_254002 := n2_
              have HO_254003 := n3_
              have HO_254004 := n4_
              have HO_263002 := n5_
              have HO_263003 := n6_
              have BK235 := n7_
              have BK236 := n8_
              have BK253 := n9_
              have BK262 := n10_
              have HB := n11_
              clear n0_ n1_ n2_ n3_ n4_ n5_ n6_ n7_ n8_ n9_ n10_ n11_
              (try clear hb)
              (try clear hb2)
              (try clear hk)
              (try clear hi)
              refine hK.out _ _ ⟨(blk_cell BK253.out 0).trans rfl, (blk_cell BK253.out 1).trans rfl, (blk_cell BK253.out 2).trans rfl, (blk_cell BK253.out 3).trans rfl, (blk_cell BK253.out 4).trans rfl, (blk_cell BK262.out 0).trans rfl, (blk_cell BK262.out 1).trans rfl, (blk_cell BK262.out 2).trans rfl, (blk_cell BK262.out 3).trans rfl⟩ (fun hHeld => ?_)
              clear hK K
              refine norm_ (a' := ?_) ?_ ?_
              rotate_left
              · show Act.put _ (some 32) _ = _
                simp only [Act.put, List.setIfInBounds_toArray, List.set_cons_zero, List.set_cons_succ, i64_w, i32_w]
                rfl
              refine one_ (i := 7) (N := some 36) #[true, true, true, true, true, true, true, true, false] rfl rfl (one_of HT_.out (by kernel_rfl)) (by decide) (fun K hK => ?_)
              refine goes_ Tryd.func17 (by kernel_rfl) rfl #[.agg #[.slice Ao17 t238.length co17, .slice Ao21 t241.length co21, .slice Ao22 t244.length co22, .slice Ao23 t247.length co23, .slice Ao24 t250.length co24], .int .i64 x11_1, .agg #[.int .i64 t254, .int .i64 t255, .slice Ao32 t256.length co32, .slice Ao33 t259.length co33]] (by rfl) rfl rfl (by (try simp only [List.map_toArray, List.map_cons, List.map_nil]); first | rfl) ?_
              with_reducible refine (proofmarkref30_Verdict.calls k1 _ _ t238 _ _ t241 _ _ t244 _ _ t247 _ _ t250 x11_1 t254 t255 _ _ t256 _ _ t259 t270 _ ?side1 ?side2 ?side3 ?side4 ?side5 ?side6 ?side7 ?side8 ?side9 ?side10 ?side11 ?side12 ?side13 ?side14 A38.out).mono ?_
              (case side1 => repeat (first | exact (Kd.R_reads' HO_254000.out).2.2))
              (case side2 => exact (Kd.R_reads' HO_254000.out).2.1)
              (case side3 => repeat (first | exact (Kd.R_reads' HO_254001.out).2.2))
              (case side4 => exact (Kd.R_reads' HO_254001.out).2.1)
              (case side5 => repeat (first | exact (Kd.R_reads' HO_254002.out).2.2))
              (case side6 => exact (Kd.R_reads' HO_254002.out).2.1)
              (case side7 => repeat (first | exact (Kd.R_reads' HO_254003.out).2.2))
              (case side8 => exact (Kd.R_reads' HO_254003.out).2.1)
              (case side9 => repeat (first | exact (Kd.R_reads' HO_254004.out).2.2))
              (case side10 => exact (Kd.R_reads' HO_254004.out).2.1)
              (case side11 => repeat (first | exact (Kd.S_reads' HO_263002.out).2.2))
              (case side12 => exact (Kd.S_reads' HO_263002.out).2.1)
              (case side13 => repeat (first | exact (Kd.S_reads' HO_263003.out).2.2))
              (case side14 => exact (Kd.S_reads' HO_263003.out).2.1)
              rintro e w46 ⟨rfl, hb⟩
              refine ⟨_, rfl, ?_⟩
              have n0_ := Aside0.mk (Kd.R_below HO_254000.out hb)
              have n1_ := Aside0.mk (Kd.R_below HO_254001.out hb)
              have n2_ := Aside0.mk (Kd.R_below HO_254002.out hb)
              have n3_ := Aside0.mk (Kd.R_below HO_254003.out hb)
              have n4_ := Aside0.mk (Kd.R_below HO_254004.out hb)
              have n5_ := Aside0.mk (Kd.S_below HO_263002.out hb)
              have n6_ := Aside0.mk (Kd.S_below HO_263003.out hb)
              have n7_ := Aside0.mk (blk_below BK235.out hb)
              have n8_ := Aside0.mk (blk_below BK236.out hb)
              have n9_ := Aside0.mk (blk_below BK253.out hb)
              have n10_ := Aside0.mk (blk_below BK262.out hb)
              have n11_ := Aside0.mk (below_step HB.out hb)
              clear HO_254000
              clear HO_254001
              clear HO_254002
              clear HO_254003
              clear HO_254004
              clear HO_263002
              clear HO_263003
              clear BK235
              clear BK236
              clear BK253
              clear BK262
              clear HB
              have HO_254000 := n0_
              have HO_254001 := n1_
              have HO_254002 := n2_
              have HO_254003 := n3_
              have HO_254004 := n4_
              have HO_263002 := n5_
              have HO_263003 := n6_
              have BK235 := n7_
              have BK236 := n8_
              have BK253 := n9_
              have BK262 := n10_
              have HB := n11_
              clear n0_ n1_ n2_ n3_ n4_ n5_ n6_ n7_ n8_ n9_ n10_ n11_
              (try clear hb)
              (try clear hb2)
              (try clear hk)
              (try clear hi)
              refine hK.out _ _ ⟨(blk_cell BK253.out 0).trans rfl, (blk_cell BK253.out 1).trans rfl, (blk_cell BK253.out 2).trans rfl, (blk_cell BK253.out 3).trans rfl, (blk_cell BK253.out 4).trans rfl, (blk_cell BK262.out 0).trans rfl, (blk_cell BK262.out 1).trans rfl, (blk_cell BK262.out 2).trans rfl, (blk_cell BK262.out 3).trans rfl⟩ (fun hHeld => ?_)
              clear hK K
              refine norm_ (a' := ?_) ?_ ?_
              rotate_left
              · show Act.put _ (some 36) _ = _
                simp only [Act.put, List.setIfInBounds_toArray, List.set_cons_zero, List.set_cons_succ, i64_w, i32_w]
                rfl
              refine pure_ (i := 8) (N := some 37) (v := ?_) (a' := ?_) #[true, true, true, true, true, true, true, true, true] rfl rfl (any_of HT_.out (by kernel_rfl)) (fun _ _ _ h => h) (Or.inl ⟨by rfl, ?_⟩) ?_ ?_
              rotate_left
              · intro w'
                go_simp
                with_reducible rfl
              rotate_left
              · simp only [Act.put, List.setIfInBounds_toArray, List.set_cons_zero, List.set_cons_succ, i64_w, i32_w]
                rfl
              refine done_ (done_of HT_.out (by kernel_rfl)) ?_
              try go_wp2
              go_roundg k1
              case measure => have := HK1.out; omega
              case rel => exact ⟨(wrap64 (x11_1 + 1)), rfl, H', ⟨by have := HK1.out; omega⟩, ⟨by exact HO_254000.out⟩, ⟨by exact HO_254001.out⟩, ⟨by exact HO_254002.out⟩, ⟨by exact HO_254003.out⟩, ⟨by exact HO_254004.out⟩, ⟨by exact HO_263002.out⟩, ⟨by exact HO_263003.out⟩, ⟨by exact BK235.out⟩, ⟨by exact BK236.out⟩, ⟨by exact BK253.out⟩, ⟨by exact BK262.out⟩, ⟨by exact HB.out⟩⟩
            · rw [if_neg c39] at H; exact absurd (Option.some.inj H) (by rw [HRT.out]; decide)
          · rw [if_neg c36] at H
            have c36b0 : decide (x11_1 ≤ (t247.length : Int)) = false := decide_eq_false c36
            clear c36
            by_cases c54 : t237 = true
            · subst c54
              have H1 : ((report_Faults.f y263).bind fun t267 => ((proofmarkref30_Faults.f y263).bind fun t268 => (some (t267.toList == t268.toList)))) = some r := by rw [if_pos rfl] at H; exact H
              clear H
              have H := H1
              clear H1
              replace H := Option.bind_eq_some_iff.mp H
              obtain ⟨t267, A550, H⟩ := H
              replace H : ((proofmarkref30_Faults.f y263).bind fun t268 => (some (t267.toList == t268.toList))) = some r := H
              have A55 := Aside0.mk A550
              clear A550
              replace H := Option.bind_eq_some_iff.mp H
              obtain ⟨t268, A560, H⟩ := H
              replace H : (some (t267.toList == t268.toList)) = some r := H
              have A56 := Aside0.mk A560
              clear A560
              obtain rfl := Option.some.inj H
              have hnb57 := NB253_235.out
              have hnc57 := NB235_253.out
              have hnb58 := NB253_236.out
              have hnc58 := NB236_253.out
              have hnb59 := NB253_262.out
              have hnc59 := NB262_253.out
              have hcz60_0 : wr.cell? ⟨gb253, 0, none⟩ = some (.slice Ao17 t238.length co17) := (blk_cell BK253.out 0).trans rfl
              have hcz60_1 : wr.cell? ⟨gb253, 1, none⟩ = some (.slice Ao21 t241.length co21) := (blk_cell BK253.out 1).trans rfl
              have hcz60_2 : wr.cell? ⟨gb253, 2, none⟩ = some (.slice Ao22 t244.length co22) := (blk_cell BK253.out 2).trans rfl
              have hcz60_3 : wr.cell? ⟨gb253, 3, none⟩ = some (.slice Ao23 t247.length co23) := (blk_cell BK253.out 3).trans rfl
              have hcz60_4 : wr.cell? ⟨gb253, 4, none⟩ = some (.slice Ao24 t250.length co24) := (blk_cell BK253.out 4).trans rfl
              have hfz60_0 := blk_frozen BK253.out 0
              have hfz60_1 := blk_frozen BK253.out 1
              have hfz60_2 := blk_frozen BK253.out 2
              have hfz60_3 := blk_frozen BK253.out 3
              have hfz60_4 := blk_frozen BK253.out 4
              go_wp2_with (first | (go_at_call 18; (with_reducible refine (report_Faults.calls _ _ y263 t267 _ (by first | (refine tab_below HG.out ?_; repeat (first | (with_reducible first | exact HB.out)))) ?side1 ?side2 A55.out).mono ?_); (case side1 => repeat (first | exact (Kd.C_below HR266.out HB.out))); (case side2 => exact HC266.out); rintro e w61 ⟨rfl, hb⟩; have n0_ := Aside0.mk (Kd.R_below HO_254000.out hb); have n1_ := Aside0.mk (Kd.R_below HO_254001.out hb); have n2_ := Aside0.mk (Kd.R_below HO_254002.out hb); have n3_ := Aside0.mk (Kd.R_below HO_254003.out hb); have n4_ := Aside0.mk (Kd.R_below HO_254004.out hb); have n5_ := Aside0.mk (Kd.S_below HO_263002.out hb); have n6_ := Aside0.mk (Kd.S_below HO_263003.out hb); have n7_ := Aside0.mk (blk_below BK235.out hb); have n8_ := Aside0.mk (blk_below BK236.out hb); have n9_ := Aside0.mk (blk_below BK253.out hb); have n10_ := Aside0.mk (blk_below BK262.out hb); have n11_ := Aside0.mk (below_step HB.out hb); clear HO_254000; clear HO_254001; clear HO_254002; clear HO_254003; clear HO_254004; clear HO_263002; clear HO_263003; clear BK235; clear BK236; clear BK253; clear BK262; clear HB; have HO_254000 := n0_; have HO_254001 := n1_; have HO_254002 := n2_; have HO_254003 := n3_; have HO_254004 := n4_; have HO_263002 := n5_; have HO_263003 := n6_; have BK235 := n7_; have BK236 := n8_; have BK253 := n9_; have BK262 := n10_; have HB := n11_; clear n0_ n1_ n2_ n3_ n4_ n5_ n6_ n7_ n8_ n9_ n10_ n11_; (try clear hb); (try clear hb2); (try clear hk); (try clear hi)) | (go_at_call 19; (with_reducible refine (proofmarkref30_Faults.calls _ _ y263 t268 _ ?side1 ?side2 A56.out).mono ?_); (case side1 => repeat (first | exact (Kd.C_below HR266.out HB.out))); (case side2 => exact HC266.out); rintro e w62 ⟨rfl, hb⟩; have n0_ := Aside0.mk (Kd.R_below HO_254000.out hb); have n1_ := Aside0.mk (Kd.R_below HO_254001.out hb); have n2_ := Aside0.mk (Kd.R_below HO_254002.out hb); have n3_ := Aside0.mk (Kd.R_below HO_254003.out hb); have n4_ := Aside0.mk (Kd.R_below HO_254004.out hb); have n5_ := Aside0.mk (Kd.S_below HO_263002.out hb); have n6_ := Aside0.mk (Kd.S_below HO_263003.out hb); have n7_ := Aside0.mk (blk_below BK235.out hb); have n8_ := Aside0.mk (blk_below BK236.out hb); have n9_ := Aside0.mk (blk_below BK253.out hb); have n10_ := Aside0.mk (blk_below BK262.out hb); have n11_ := Aside0.mk (below_step HB.out hb); clear HO_254000; clear HO_254001; clear HO_254002; clear HO_254003; clear HO_254004; clear HO_263002; clear HO_263003; clear BK235; clear BK236; clear BK253; clear BK262; clear HB; have HO_254000 := n0_; have HO_254001 := n1_; have HO_254002 := n2_; have HO_254003 := n3_; have HO_254004 := n4_; have HO_263002 := n5_; have HO_263003 := n6_; have BK235 := n7_; have BK236 := n8_; have BK253 := n9_; have BK262 := n10_; have HB := n11_; clear n0_ n1_ n2_ n3_ n4_ n5_ n6_ n7_ n8_ n9_ n10_ n11_; (try clear hb); (try clear hb2); (try clear hk); (try clear hi)))
              go_ret
              exact ⟨by first | rfl, by exact HB.out⟩
            · replace c54 := Bool.eq_false_iff.mpr c54
              subst c54
              have H1 : (some false) = some r := by rw [if_neg (show ¬ (false = true) by decide)] at H; exact H
              clear H
              have H := H1
              clear H1
              obtain rfl := Option.some.inj H
              have hnb63 := NB253_235.out
              have hnc63 := NB235_253.out
              have hnb64 := NB253_236.out
              have hnc64 := NB236_253.out
              have hnb65 := NB253_262.out
              have hnc65 := NB262_253.out
              have hcz66_0 : wr.cell? ⟨gb253, 0, none⟩ = some (.slice Ao17 t238.length co17) := (blk_cell BK253.out 0).trans rfl
              have hcz66_1 : wr.cell? ⟨gb253, 1, none⟩ = some (.slice Ao21 t241.length co21) := (blk_cell BK253.out 1).trans rfl
              have hcz66_2 : wr.cell? ⟨gb253, 2, none⟩ = some (.slice Ao22 t244.length co22) := (blk_cell BK253.out 2).trans rfl
              have hcz66_3 : wr.cell? ⟨gb253, 3, none⟩ = some (.slice Ao23 t247.length co23) := (blk_cell BK253.out 3).trans rfl
              have hcz66_4 : wr.cell? ⟨gb253, 4, none⟩ = some (.slice Ao24 t250.length co24) := (blk_cell BK253.out 4).trans rfl
              have hfz66_0 := blk_frozen BK253.out 0
              have hfz66_1 := blk_frozen BK253.out 1
              have hfz66_2 := blk_frozen BK253.out 2
              have hfz66_3 := blk_frozen BK253.out 3
              have hfz66_4 := blk_frozen BK253.out 4
              go_wp2
              go_ret
              exact ⟨by first | rfl, by exact HB.out⟩
    · rw [if_neg c9] at H
      exact absurd H (by simp)
  · rw [if_neg c8] at H
    exact absurd H (by simp)


end Go.Proofs.YtmfekngjhiofaaaDoor.Q
