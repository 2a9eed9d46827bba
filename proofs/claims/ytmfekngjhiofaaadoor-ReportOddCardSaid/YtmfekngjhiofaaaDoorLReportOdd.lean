-- Written by the session's own programs (wip/tools/ownprint.py, prune.py) for this claim: one function of the translation, the ways on which it answers true.
import Derived.Test.YtmfekngjhiofaaaDoorQx0
import Derived.Test.YtmfekngjhiofaaaDoorQx12
import Derived.Test.YtmfekngjhiofaaaDoorQx13
import Derived.Test.YtmfekngjhiofaaaDoorHFaults
import Derived.Test.YtmfekngjhiofaaaDoorHHead
import Derived.Test.YtmfekngjhiofaaaDoorHRFaults
import Derived.Test.YtmfekngjhiofaaaDoorHRVerdict
import Derived.Test.YtmfekngjhiofaaaDoorHTab
import Derived.Test.YtmfekngjhiofaaaDoorHVerdict
namespace Go.Proofs.YtmfekngjhiofaaaDoor.Q
open Go.RowKit Go.Proofs.YtmfekngjhiofaaaDoorW.PrintWords Go.Proofs.YtmfekngjhiofaaaDoorW.PrintLast Go.Proofs.YtmfekngjhiofaaaDoorW.PrintMore
attribute [local go_sem] max2_int min2_int max_two min_two max_three min_three max_four min_four   -- for this text's walks alone
set_option linter.unusedVariables false
set_option linter.unusedSimpArgs false

/-! ### proofmarklaw30_ReportOdd: function 4 -/
def proofmarklaw30_ReportOdd.f (k : Nat) (l0_0 : List (S96)) (l0_1 : List (S111)) (l0_2 : List (S94)) (l0_3 : List (S73)) (l0_4 : List (S111)) (a1_0 : Int) (a1_1 : Int) (l1_2 : List (List Int)) (l1_3 : List (List Int)) (a2 : Int) : Option (Bool) := (proofmarklaw30_head.f k).bind fun t237 => ((proofmarkref30_Few.f k l0_0 l0_1 l0_2 l0_3 l0_4).bind fun bt238 => ((proofmarkref30_Fit.f k a1_0 a1_1 l1_2 l1_3).bind fun bt254 => ((some (([(⟨a2, a2, a1_1, a1_0⟩ : S40)] : List (S40)) : List (S40))).bind fun y263 => (if t237 = true then ((report_Verdict.f k bt238.1 bt238.2.1 bt238.2.2.1 bt238.2.2.2.1 bt238.2.2.2.2 a2 bt254.1 bt254.2.1 bt254.2.2.1 bt254.2.2.2).bind fun t266 => ((proofmarkref30_Verdict.f k bt238.1 bt238.2.1 bt238.2.2.1 bt238.2.2.2.1 bt238.2.2.2.2 a2 bt254.1 bt254.2.1 bt254.2.2.1 bt254.2.2.2).bind fun t267 => (if t266.toList = t267.toList then ((report_Faults.f y263).bind fun t268 => ((proofmarkref30_Faults.f y263).bind fun t269 => (some (t268.toList == t269.toList)))) else (some false)))) else (some false)))))
theorem proofmarklaw30_ReportOdd.mono : ∀ a0 a1 a2 a3 a4 a5 a6 a7 a8 a9 k, LeO (proofmarklaw30_ReportOdd.f k a0 a1 a2 a3 a4 a5 a6 a7 a8 a9) (proofmarklaw30_ReportOdd.f (k + 1) a0 a1 a2 a3 a4 a5 a6 a7 a8 a9) := by
  intro a0 a1 a2 a3 a4 a5 a6 a7 a8 a9 k
  unfold proofmarklaw30_ReportOdd.f
  repeat' first
      | (with_reducible exact proofmarklaw30_head.mono _)
      | (with_reducible exact proofmarkref30_Few.mono _ _ _ _ _ _)
      | (with_reducible exact proofmarkref30_Fit.mono _ _ _ _ _)
      | (with_reducible exact proofmarkref30_Verdict.mono _ _ _ _ _ _ _ _ _ _ _)
      | (with_reducible exact report_Verdict.mono _ _ _ _ _ _ _ _ _ _ _)
      | (with_reducible exact LeO.refl _)
      | (with_reducible exact LeO.none _)
      | (with_reducible refine LeO.ite ?_ ?_)
      | (with_reducible refine LeO.bind ?_ (fun _ => ?_))
      | exact proofmarklaw30_head.mono _
      | exact proofmarkref30_Few.mono _ _ _ _ _ _
      | exact proofmarkref30_Fit.mono _ _ _ _ _
      | exact proofmarkref30_Verdict.mono _ _ _ _ _ _ _ _ _ _ _
      | exact report_Verdict.mono _ _ _ _ _ _ _ _ _ _ _
      | exact LeO.none _
      | refine LeO.ite ?_ ?_
      | refine LeO.bind ?_ (fun _ => ?_)
def proofmarklaw30_ReportOdd.T5 : Bool × List (List Nat × List Nat) := (true, [([], []), ([0], [0]), ([1], [1]), ([1], [1]), ([1], [1]), ([2, 3, 4, 1, 1], [1, 2, 3, 4]), ([1], [1]), ([1], [1]), ([1], [1]), ([6, 7, 8, 5, 1], [1, 6, 7, 8]), ([5, 9, 1], [1, 5, 9]), ([1, 10], [1, 10]), ([11, 9], [11]), ([12], [12]), ([13, 12, 12], [12, 13]), ([12], [12]), ([15, 14, 12], [12, 15]), ([14, 16, 12], [12, 14, 16]), ([12, 17], [12, 17]), ([18, 16, 0, 1, 2, 3, 4, 5, 6, 7, 8, 9, 10, 11, 12, 13, 14, 15, 16, 17, 18], [18])])
def proofmarklaw30_ReportOdd.B5 : List Nat := [0, 1, 3, 3, 3, 31, 3, 3, 3, 511, 1023, 2047, 4095, 8191, 16383, 8191, 65535, 131071, 262143, 524287]
theorem proofmarklaw30_ReportOdd.tab5 : rtab .any (opsOf Tryd.f4 5) = proofmarklaw30_ReportOdd.T5 := by kernel_rfl
theorem proofmarklaw30_ReportOdd.bits5 : waitsOk proofmarklaw30_ReportOdd.T5.2 proofmarklaw30_ReportOdd.B5 = true := by kernel_rfl
set_option maxHeartbeats 8000000 in
set_option maxRecDepth 100000 in
theorem proofmarklaw30_ReportOdd.calls1 (k : Nat) (A0_0 : Option Addr) (c0_0 : Nat) (l0_0 : List (S96)) (A0_1 : Option Addr) (c0_1 : Nat) (l0_1 : List (S111)) (A0_2 : Option Addr) (c0_2 : Nat) (l0_2 : List (S94)) (A0_3 : Option Addr) (c0_3 : Nat) (l0_3 : List (S73)) (A0_4 : Option Addr) (c0_4 : Nat) (l0_4 : List (S111)) (a1_0 : Int) (a1_1 : Int) (A1_2 : Option Addr) (c1_2 : Nat) (l1_2 : List (List Int)) (A1_3 : Option Addr) (c1_3 : Nat) (l1_3 : List (List Int)) (a2 : Int) (r : Bool) (w : World) (hG : Tab w) (hr0_0 : Kd.C k96 w A0_0 l0_0.length l0_0) (hc0_0 : l0_0.length ≤ c0_0) (hr0_1 : Kd.C k111 w A0_1 l0_1.length l0_1) (hc0_1 : l0_1.length ≤ c0_1) (hr0_2 : Kd.C k94 w A0_2 l0_2.length l0_2) (hc0_2 : l0_2.length ≤ c0_2) (hr0_3 : Kd.C k73 w A0_3 l0_3.length l0_3) (hc0_3 : l0_3.length ≤ c0_3) (hr0_4 : Kd.C k111 w A0_4 l0_4.length l0_4) (hc0_4 : l0_4.length ≤ c0_4) (hr1_2 : Kd.C (Kd.slice 3 (Kd.int .i64)) w A1_2 l1_2.length l1_2) (hc1_2 : l1_2.length ≤ c1_2) (hr1_3 : Kd.C (Kd.slice 3 (Kd.int .i64)) w A1_3 l1_3.length l1_3) (hc1_3 : l1_3.length ≤ c1_3) (h : proofmarklaw30_ReportOdd.f k l0_0 l0_1 l0_2 l0_3 l0_4 a1_0 a1_1 l1_2 l1_3 a2 = some r) (hr : r = true) :
    Calls Tryd.prog 4 #[.agg #[.slice A0_0 l0_0.length c0_0, .slice A0_1 l0_1.length c0_1, .slice A0_2 l0_2.length c0_2, .slice A0_3 l0_3.length c0_3, .slice A0_4 l0_4.length c0_4], .agg #[.int .i64 a1_0, .int .i64 a1_1, .slice A1_2 l1_2.length c1_2, .slice A1_3 l1_3.length c1_3], .int .i64 a2] w fun e w' => e = .returned (.bool r) ∧ Below w.heap.size w w' := by
  have HRT := Aside0.mk hr
  clear hr
  have HG := Aside0.mk hG
  clear hG
  have hu27 := Tryd.underlying27
  have hu30 := Tryd.underlying30
  have hu40 := Tryd.underlying40
  have HR0_0 := Aside0.mk hr0_0
  have HC0_0 := Aside0.mk hc0_0
  clear hr0_0 hc0_0
  have HR0_1 := Aside0.mk hr0_1
  have HC0_1 := Aside0.mk hc0_1
  clear hr0_1 hc0_1
  have HR0_2 := Aside0.mk hr0_2
  have HC0_2 := Aside0.mk hc0_2
  clear hr0_2 hc0_2
  have HR0_3 := Aside0.mk hr0_3
  have HC0_3 := Aside0.mk hc0_3
  clear hr0_3 hc0_3
  have HR0_4 := Aside0.mk hr0_4
  have HC0_4 := Aside0.mk hc0_4
  clear hr0_4 hc0_4
  have HR1_2 := Aside0.mk hr1_2
  have HC1_2 := Aside0.mk hc1_2
  clear hr1_2 hc1_2
  have HR1_3 := Aside0.mk hr1_3
  have HC1_3 := Aside0.mk hc1_3
  clear hr1_3 hc1_3
  have HB := Aside0.mk (Below.refl w.heap.size w)
  have H : ((proofmarklaw30_head.f k).bind fun t237 => ((proofmarkref30_Few.f k l0_0 l0_1 l0_2 l0_3 l0_4).bind fun bt238 => ((proofmarkref30_Fit.f k a1_0 a1_1 l1_2 l1_3).bind fun bt254 => ((some (([(⟨a2, a2, a1_1, a1_0⟩ : S40)] : List (S40)) : List (S40))).bind fun y263 => (if t237 = true then ((report_Verdict.f k bt238.1 bt238.2.1 bt238.2.2.1 bt238.2.2.2.1 bt238.2.2.2.2 a2 bt254.1 bt254.2.1 bt254.2.2.1 bt254.2.2.2).bind fun t266 => ((proofmarkref30_Verdict.f k bt238.1 bt238.2.1 bt238.2.2.1 bt238.2.2.2.1 bt238.2.2.2.2 a2 bt254.1 bt254.2.1 bt254.2.2.1 bt254.2.2.2).bind fun t267 => (if t266.toList = t267.toList then ((report_Faults.f y263).bind fun t268 => ((proofmarkref30_Faults.f y263).bind fun t269 => (some (t268.toList == t269.toList)))) else (some false)))) else (some false)))))) = some r := h
  clear h
  replace H := Option.bind_eq_some_iff.mp H
  obtain ⟨t237, A40, H⟩ := H
  replace H : ((proofmarkref30_Few.f k l0_0 l0_1 l0_2 l0_3 l0_4).bind fun bt238 => ((proofmarkref30_Fit.f k a1_0 a1_1 l1_2 l1_3).bind fun bt254 => ((some (([(⟨a2, a2, a1_1, a1_0⟩ : S40)] : List (S40)) : List (S40))).bind fun y263 => (if t237 = true then ((report_Verdict.f k bt238.1 bt238.2.1 bt238.2.2.1 bt238.2.2.2.1 bt238.2.2.2.2 a2 bt254.1 bt254.2.1 bt254.2.2.1 bt254.2.2.2).bind fun t266 => ((proofmarkref30_Verdict.f k bt238.1 bt238.2.1 bt238.2.2.1 bt238.2.2.2.1 bt238.2.2.2.2 a2 bt254.1 bt254.2.1 bt254.2.2.1 bt254.2.2.2).bind fun t267 => (if t266.toList = t267.toList then ((report_Faults.f y263).bind fun t268 => ((proofmarkref30_Faults.f y263).bind fun t269 => (some (t268.toList == t269.toList)))) else (some false)))) else (some false))))) = some r := H
  have A4 := Aside0.mk A40
  clear A40
  replace H := Option.bind_eq_some_iff.mp H
  obtain ⟨⟨t238, t241, t244, t247, t250⟩, A50, H⟩ := H
  replace H : ((proofmarkref30_Fit.f k a1_0 a1_1 l1_2 l1_3).bind fun bt254 => ((some (([(⟨a2, a2, a1_1, a1_0⟩ : S40)] : List (S40)) : List (S40))).bind fun y263 => (if t237 = true then ((report_Verdict.f k t238 t241 t244 t247 t250 a2 bt254.1 bt254.2.1 bt254.2.2.1 bt254.2.2.2).bind fun t266 => ((proofmarkref30_Verdict.f k t238 t241 t244 t247 t250 a2 bt254.1 bt254.2.1 bt254.2.2.1 bt254.2.2.2).bind fun t267 => (if t266.toList = t267.toList then ((report_Faults.f y263).bind fun t268 => ((proofmarkref30_Faults.f y263).bind fun t269 => (some (t268.toList == t269.toList)))) else (some false)))) else (some false)))) = some r := H
  have A5 := Aside0.mk A50
  clear A50
  replace H := Option.bind_eq_some_iff.mp H
  obtain ⟨⟨t254, t255, t256, t259⟩, A60, H⟩ := H
  replace H : ((some (([(⟨a2, a2, a1_1, a1_0⟩ : S40)] : List (S40)) : List (S40))).bind fun y263 => (if t237 = true then ((report_Verdict.f k t238 t241 t244 t247 t250 a2 t254 t255 t256 t259).bind fun t266 => ((proofmarkref30_Verdict.f k t238 t241 t244 t247 t250 a2 t254 t255 t256 t259).bind fun t267 => (if t266.toList = t267.toList then ((report_Faults.f y263).bind fun t268 => ((proofmarkref30_Faults.f y263).bind fun t269 => (some (t268.toList == t269.toList)))) else (some false)))) else (some false))) = some r := H
  have A6 := Aside0.mk A60
  clear A60
  obtain ⟨y263, hy263⟩ : ∃ y_ : List (S40), y_ = (([(⟨a2, a2, a1_1, a1_0⟩ : S40)] : List (S40))) := ⟨_, rfl⟩
  replace H : (if t237 = true then ((report_Verdict.f k t238 t241 t244 t247 t250 a2 t254 t255 t256 t259).bind fun t266 => ((proofmarkref30_Verdict.f k t238 t241 t244 t247 t250 a2 t254 t255 t256 t259).bind fun t267 => (if t266.toList = t267.toList then ((report_Faults.f y263).bind fun t268 => ((proofmarkref30_Faults.f y263).bind fun t269 => (some (t268.toList == t269.toList)))) else (some false)))) else (some false)) = some r := by first | (have H2_ := (Option.bind_some _ _).symm.trans H; rw [hy263]; with_reducible exact H2_)
  have Ny263 := Aside0.mk hy263
  clear hy263
  by_cases c7 : t237 = true
  · subst c7
    have H1 : ((report_Verdict.f k t238 t241 t244 t247 t250 a2 t254 t255 t256 t259).bind fun t266 => ((proofmarkref30_Verdict.f k t238 t241 t244 t247 t250 a2 t254 t255 t256 t259).bind fun t267 => (if t266.toList = t267.toList then ((report_Faults.f y263).bind fun t268 => ((proofmarkref30_Faults.f y263).bind fun t269 => (some (t268.toList == t269.toList)))) else (some false)))) = some r := by rw [if_pos rfl] at H; exact H
    clear H
    have H := H1
    clear H1
    replace H := Option.bind_eq_some_iff.mp H
    obtain ⟨t266, A80, H⟩ := H
    replace H : ((proofmarkref30_Verdict.f k t238 t241 t244 t247 t250 a2 t254 t255 t256 t259).bind fun t267 => (if t266.toList = t267.toList then ((report_Faults.f y263).bind fun t268 => ((proofmarkref30_Faults.f y263).bind fun t269 => (some (t268.toList == t269.toList)))) else (some false))) = some r := H
    have A8 := Aside0.mk A80
    clear A80
    replace H := Option.bind_eq_some_iff.mp H
    obtain ⟨t267, A90, H⟩ := H
    replace H : (if t266.toList = t267.toList then ((report_Faults.f y263).bind fun t268 => ((proofmarkref30_Faults.f y263).bind fun t269 => (some (t268.toList == t269.toList)))) else (some false)) = some r := H
    have A9 := Aside0.mk A90
    clear A90
    by_cases c10 : t266.toList = t267.toList
    · rw [if_pos c10] at H
      have c10b0 : (t266.toList == t267.toList) = true := beq_iff_eq.mpr c10
      have c10b1 : (t266.toList != t267.toList) = false := bne_eq_false_iff_eq.mpr c10
      clear c10
      replace H := Option.bind_eq_some_iff.mp H
      obtain ⟨t268, A110, H⟩ := H
      replace H : ((proofmarkref30_Faults.f y263).bind fun t269 => (some (t268.toList == t269.toList))) = some r := H
      have A11 := Aside0.mk A110
      clear A110
      replace H := Option.bind_eq_some_iff.mp H
      obtain ⟨t269, A120, H⟩ := H
      replace H : (some (t268.toList == t269.toList)) = some r := H
      have A12 := Aside0.mk A120
      clear A120
      obtain rfl := Option.some.inj H
      go_enter Tryd.func4, Tryd.ntmps4
      try go_wp2_with (first | ((with_reducible refine gate_dst (N := 3) rfl ?_); refine box_event ?hg (N := 3) ?hd (cs := #[.slice A0_0 l0_0.length c0_0, .slice A0_1 l0_1.length c0_1, .slice A0_2 l0_2.length c0_2, .slice A0_3 l0_3.length c0_3, .slice A0_4 l0_4.length c0_4]) (t := 27) ?hr ?_; (case hd => rfl); (case hg => rfl); (case hr => first | (go_simp; done)); intro gb235 hg w13 hbox hb; have n0_ := Aside0.mk (below_step HB.out hb); have n1_ := Aside0.mk (hbox); have n2_ := Aside0.mk ((by rw [hg]; exact (below_size HB.out) : w.heap.size ≤ gb235)); have n3_ := Aside0.mk ((by rw [hg]; exact (below_size HB.out) : w.heap.size ≤ gb235)); clear HB; have HB := n0_; have BK235 := n1_; have GW235 := n2_; have GE235 := n3_; clear n0_ n1_ n2_ n3_; clear hb hbox hg) | ((with_reducible refine gate_dst (N := 4) rfl ?_); refine box_event ?hg (N := 4) ?hd (cs := #[.int .i64 a1_0, .int .i64 a1_1, .slice A1_2 l1_2.length c1_2, .slice A1_3 l1_3.length c1_3]) (t := 30) ?hr ?_; (case hd => rfl); (case hg => rfl); (case hr => first | (go_simp; done)); intro gb236 hg w14 hbox hb; have n0_ := Aside0.mk (blk_below BK235.out hb); have n1_ := Aside0.mk (below_step HB.out hb); have n2_ := Aside0.mk (hbox); have n3_ := Aside0.mk ((by rw [hg]; exact (below_size HB.out) : w.heap.size ≤ gb236)); have n4_ := Aside0.mk ((by rw [hg]; exact (below_size HB.out) : w.heap.size ≤ gb236)); have n5_ := Aside0.mk ((by rw [hg]; exact Nat.ne_of_lt (blk_lt BK235.out) : gb235 ≠ gb236)); have n6_ := Aside0.mk ((by rw [hg]; exact Nat.ne_of_gt (blk_lt BK235.out) : gb236 ≠ gb235)); clear BK235; clear HB; have BK235 := n0_; have HB := n1_; have BK236 := n2_; have GW236 := n3_; have GE236 := n4_; have NB235_236 := n5_; have NB236_235 := n6_; clear n0_ n1_ n2_ n3_ n4_ n5_ n6_; clear hb hbox hg) | ((with_reducible refine gate_callee (f := 13) rfl ?_); refine goesL_ (some 11) rfl rfl Tryd.func13 (by kernel_rfl) rfl #[] rfl (by (try simp only [List.map_toArray, List.map_cons, List.map_nil]); first | done) ?_; (with_reducible refine (proofmarklaw30_head.calls k true _ (by first | (refine tab_below HG.out ?_; repeat (first | (with_reducible first | exact HB.out)))) A4.out).mono ?_); rintro e w15 ⟨rfl, hb⟩; refine ⟨_, rfl, ?_⟩; have n0_ := Aside0.mk (blk_below BK235.out hb); have n1_ := Aside0.mk (blk_below BK236.out hb); have n2_ := Aside0.mk (below_step HB.out hb); clear BK235; clear BK236; clear HB; have BK235 := n0_; have BK236 := n1_; have HB := n2_; clear n0_ n1_ n2_; (try clear hb); (try clear hb2); (try clear hk); (try clear hi); have hnb16 := NB235_236.out; have hnc16 := NB236_235.out; have hcz17_0 : w15.cell? ⟨gb235, 0, none⟩ = some (.slice A0_0 l0_0.length c0_0) := (blk_cell BK235.out 0).trans rfl; have hcz17_1 : w15.cell? ⟨gb235, 1, none⟩ = some (.slice A0_1 l0_1.length c0_1) := (blk_cell BK235.out 1).trans rfl; have hcz17_2 : w15.cell? ⟨gb235, 2, none⟩ = some (.slice A0_2 l0_2.length c0_2) := (blk_cell BK235.out 2).trans rfl; have hcz17_3 : w15.cell? ⟨gb235, 3, none⟩ = some (.slice A0_3 l0_3.length c0_3) := (blk_cell BK235.out 3).trans rfl; have hcz17_4 : w15.cell? ⟨gb235, 4, none⟩ = some (.slice A0_4 l0_4.length c0_4) := (blk_cell BK235.out 4).trans rfl; have hfz17_0 := blk_frozen BK235.out 0; have hfz17_1 := blk_frozen BK235.out 1; have hfz17_2 := blk_frozen BK235.out 2; have hfz17_3 := blk_frozen BK235.out 3; have hfz17_4 := blk_frozen BK235.out 4) | ((with_reducible refine gate_callee (f := 14) rfl ?_); refine goesL_ (some 13) rfl rfl Tryd.func14 (by kernel_rfl) rfl #[.agg #[.slice A0_0 l0_0.length c0_0, .slice A0_1 l0_1.length c0_1, .slice A0_2 l0_2.length c0_2, .slice A0_3 l0_3.length c0_3, .slice A0_4 l0_4.length c0_4]] rfl (by (try simp only [List.map_toArray, List.map_cons, List.map_nil]); first | rfl) ?_; (with_reducible refine (proofmarkref30_Few.calls k _ _ l0_0 _ _ l0_1 _ _ l0_2 _ _ l0_3 _ _ l0_4 t238 t241 t244 t247 t250 _ ?side1 ?side2 ?side3 ?side4 ?side5 ?side6 ?side7 ?side8 ?side9 ?side10 A5.out).mono ?_); (case side1 => repeat (first | exact (Kd.C_below HR0_0.out HB.out))); (case side2 => exact HC0_0.out); (case side3 => repeat (first | exact (Kd.C_below HR0_1.out HB.out))); (case side4 => exact HC0_1.out); (case side5 => repeat (first | exact (Kd.C_below HR0_2.out HB.out))); (case side6 => exact HC0_2.out); (case side7 => repeat (first | exact (Kd.C_below HR0_3.out HB.out))); (case side8 => exact HC0_3.out); (case side9 => repeat (first | exact (Kd.C_below HR0_4.out HB.out))); (case side10 => exact HC0_4.out); rintro e w18 ⟨v239, v242, v245, v248, v251, rfl, ho0, ho1, ho2, ho3, ho4, hb⟩; refine ⟨_, rfl, ?_⟩; have n0_ := Aside0.mk (Kd.R_lower ho0 (below_size HB.out)); have n1_ := Aside0.mk (Kd.R_lower ho1 (below_size HB.out)); have n2_ := Aside0.mk (Kd.R_lower ho2 (below_size HB.out)); have n3_ := Aside0.mk (Kd.R_lower ho3 (below_size HB.out)); have n4_ := Aside0.mk (Kd.R_lower ho4 (below_size HB.out)); have n5_ := Aside0.mk (blk_below BK235.out hb); have n6_ := Aside0.mk (blk_below BK236.out hb); have n7_ := Aside0.mk (below_step HB.out hb); clear BK235; clear BK236; clear HB; have HO240 := n0_; have HO243 := n1_; have HO246 := n2_; have HO249 := n3_; have HO252 := n4_; have BK235 := n5_; have BK236 := n6_; have HB := n7_; clear n0_ n1_ n2_ n3_ n4_ n5_ n6_ n7_; (try clear hb); (try clear hb2); (try clear hk); (try clear hi); (try clear ho0); (try clear ho1); (try clear ho2); (try clear ho3); (try clear ho4)) | ((with_reducible refine gate_dst (N := 8) rfl ?_); refine box_event ?hg (N := 8) ?hd (cs := #[.slice none 0 0, .slice none 0 0, .slice none 0 0, .slice none 0 0, .slice none 0 0]) (t := 27) ?hr ?_; (case hd => rfl); (case hg => rfl); (case hr => first | (go_simp; done)); intro gb253 hg w19 hbox hb; have n0_ := Aside0.mk (Kd.R_below HO240.out hb); have n1_ := Aside0.mk (Kd.R_below HO243.out hb); have n2_ := Aside0.mk (Kd.R_below HO246.out hb); have n3_ := Aside0.mk (Kd.R_below HO249.out hb); have n4_ := Aside0.mk (Kd.R_below HO252.out hb); have n5_ := Aside0.mk (blk_below BK235.out hb); have n6_ := Aside0.mk (blk_below BK236.out hb); have n7_ := Aside0.mk (below_step HB.out hb); have n8_ := Aside0.mk (hbox); have n9_ := Aside0.mk ((by rw [hg]; exact (below_size HB.out) : w.heap.size ≤ gb253)); have n10_ := Aside0.mk ((by rw [hg]; exact (below_size HB.out) : w.heap.size ≤ gb253)); have n11_ := Aside0.mk ((by rw [hg]; exact Nat.ne_of_lt (blk_lt BK235.out) : gb235 ≠ gb253)); have n12_ := Aside0.mk ((by rw [hg]; exact Nat.ne_of_gt (blk_lt BK235.out) : gb253 ≠ gb235)); have n13_ := Aside0.mk ((by rw [hg]; exact Nat.ne_of_lt (blk_lt BK236.out) : gb236 ≠ gb253)); have n14_ := Aside0.mk ((by rw [hg]; exact Nat.ne_of_gt (blk_lt BK236.out) : gb253 ≠ gb236)); clear HO240; clear HO243; clear HO246; clear HO249; clear HO252; clear BK235; clear BK236; clear HB; have HO240 := n0_; have HO243 := n1_; have HO246 := n2_; have HO249 := n3_; have HO252 := n4_; have BK235 := n5_; have BK236 := n6_; have HB := n7_; have BK253 := n8_; have GW253 := n9_; have GE253 := n10_; have NB235_253 := n11_; have NB253_235 := n12_; have NB236_253 := n13_; have NB253_236 := n14_; clear n0_ n1_ n2_ n3_ n4_ n5_ n6_ n7_ n8_ n9_ n10_ n11_ n12_ n13_ n14_; clear hb hbox hg; obtain ⟨Ao20, co20, eo20⟩ := Kd.R_slice HO240.out; subst eo20; have hnb21 := NB253_235.out; have hnc21 := NB235_253.out; have hnb22 := NB253_236.out; have hnc22 := NB236_253.out; have hcz23_0 : w19.cell? ⟨gb253, 0, none⟩ = some (.slice none 0 0) := (blk_cell BK253.out 0).trans rfl; have hcz23_1 : w19.cell? ⟨gb253, 1, none⟩ = some (.slice none 0 0) := (blk_cell BK253.out 1).trans rfl; have hcz23_2 : w19.cell? ⟨gb253, 2, none⟩ = some (.slice none 0 0) := (blk_cell BK253.out 2).trans rfl; have hcz23_3 : w19.cell? ⟨gb253, 3, none⟩ = some (.slice none 0 0) := (blk_cell BK253.out 3).trans rfl; have hcz23_4 : w19.cell? ⟨gb253, 4, none⟩ = some (.slice none 0 0) := (blk_cell BK253.out 4).trans rfl; have hfz23_0 := blk_frozen BK253.out 0; have hfz23_1 := blk_frozen BK253.out 1; have hfz23_2 := blk_frozen BK253.out 2; have hfz23_3 := blk_frozen BK253.out 3; have hfz23_4 := blk_frozen BK253.out 4; obtain ⟨Ao24, co24, eo24⟩ := Kd.R_slice HO243.out; subst eo24; obtain ⟨Ao25, co25, eo25⟩ := Kd.R_slice HO246.out; subst eo25; obtain ⟨Ao26, co26, eo26⟩ := Kd.R_slice HO249.out; subst eo26; obtain ⟨Ao27, co27, eo27⟩ := Kd.R_slice HO252.out; subst eo27; have hcz28_0 : w19.cell? ⟨gb236, 0, none⟩ = some (.int .i64 a1_0) := (blk_cell BK236.out 0).trans rfl; have hcz28_1 : w19.cell? ⟨gb236, 1, none⟩ = some (.int .i64 a1_1) := (blk_cell BK236.out 1).trans rfl; have hcz28_2 : w19.cell? ⟨gb236, 2, none⟩ = some (.slice A1_2 l1_2.length c1_2) := (blk_cell BK236.out 2).trans rfl; have hcz28_3 : w19.cell? ⟨gb236, 3, none⟩ = some (.slice A1_3 l1_3.length c1_3) := (blk_cell BK236.out 3).trans rfl; have hfz28_0 := blk_frozen BK236.out 0; have hfz28_1 := blk_frozen BK236.out 1; have hfz28_2 := blk_frozen BK236.out 2; have hfz28_3 := blk_frozen BK236.out 3) | ((with_reducible refine gate_callee (f := 15) rfl ?_); refine goesL_ (some 15) rfl rfl Tryd.func15 (by kernel_rfl) rfl #[.agg #[.int .i64 a1_0, .int .i64 a1_1, .slice A1_2 l1_2.length c1_2, .slice A1_3 l1_3.length c1_3]] rfl (by (try simp only [List.map_toArray, List.map_cons, List.map_nil]); first | rfl) ?_; (with_reducible refine (proofmarkref30_Fit.calls k a1_0 a1_1 _ _ l1_2 _ _ l1_3 t254 t255 t256 t259 _ ?side1 ?side2 ?side3 ?side4 A6.out).mono ?_); (case side1 => exact Kd.C_below HR1_2.out (by repeat (first | (with_reducible first | exact HB.out | refine below_set ?_ GE253.out)))); (case side2 => exact HC1_2.out); (case side3 => exact Kd.C_below HR1_3.out (by repeat (first | (with_reducible first | exact HB.out | refine below_set ?_ GE253.out)))); (case side4 => exact HC1_3.out); rintro e w29 ⟨v257, v260, rfl, ho0, ho1, hb⟩; refine ⟨_, rfl, ?_⟩; have n0_ := Aside0.mk (Kd.R_below (by exact (Kd.R_mono (Kd.R_far (p := ⟨gb253, 4, none⟩) (Kd.R_far (p := ⟨gb253, 3, none⟩) (Kd.R_far (p := ⟨gb253, 2, none⟩) (Kd.R_far (p := ⟨gb253, 1, none⟩) (Kd.R_far (p := ⟨gb253, 0, none⟩) (Kd.R_types HO240.out BK253.out (by decide)) (fun _ hk => hk.2) (.slice Ao20 t238.length co20)) (fun _ hk => hk.2) (.slice Ao24 t241.length co24)) (fun _ hk => hk.2) (.slice Ao25 t244.length co25)) (fun _ hk => hk.2) (.slice Ao26 t247.length co26)) (fun _ hk => hk.2) (.slice Ao27 t250.length co27)) (fun _ h_ => h_.1))) hb); have n1_ := Aside0.mk (Kd.R_below (by exact (Kd.R_mono (Kd.R_far (p := ⟨gb253, 4, none⟩) (Kd.R_far (p := ⟨gb253, 3, none⟩) (Kd.R_far (p := ⟨gb253, 2, none⟩) (Kd.R_far (p := ⟨gb253, 1, none⟩) (Kd.R_far (p := ⟨gb253, 0, none⟩) (Kd.R_types HO243.out BK253.out (by decide)) (fun _ hk => hk.2) (.slice Ao20 t238.length co20)) (fun _ hk => hk.2) (.slice Ao24 t241.length co24)) (fun _ hk => hk.2) (.slice Ao25 t244.length co25)) (fun _ hk => hk.2) (.slice Ao26 t247.length co26)) (fun _ hk => hk.2) (.slice Ao27 t250.length co27)) (fun _ h_ => h_.1))) hb); have n2_ := Aside0.mk (Kd.R_below (by exact (Kd.R_mono (Kd.R_far (p := ⟨gb253, 4, none⟩) (Kd.R_far (p := ⟨gb253, 3, none⟩) (Kd.R_far (p := ⟨gb253, 2, none⟩) (Kd.R_far (p := ⟨gb253, 1, none⟩) (Kd.R_far (p := ⟨gb253, 0, none⟩) (Kd.R_types HO246.out BK253.out (by decide)) (fun _ hk => hk.2) (.slice Ao20 t238.length co20)) (fun _ hk => hk.2) (.slice Ao24 t241.length co24)) (fun _ hk => hk.2) (.slice Ao25 t244.length co25)) (fun _ hk => hk.2) (.slice Ao26 t247.length co26)) (fun _ hk => hk.2) (.slice Ao27 t250.length co27)) (fun _ h_ => h_.1))) hb); have n3_ := Aside0.mk (Kd.R_below (by exact (Kd.R_mono (Kd.R_far (p := ⟨gb253, 4, none⟩) (Kd.R_far (p := ⟨gb253, 3, none⟩) (Kd.R_far (p := ⟨gb253, 2, none⟩) (Kd.R_far (p := ⟨gb253, 1, none⟩) (Kd.R_far (p := ⟨gb253, 0, none⟩) (Kd.R_types HO249.out BK253.out (by decide)) (fun _ hk => hk.2) (.slice Ao20 t238.length co20)) (fun _ hk => hk.2) (.slice Ao24 t241.length co24)) (fun _ hk => hk.2) (.slice Ao25 t244.length co25)) (fun _ hk => hk.2) (.slice Ao26 t247.length co26)) (fun _ hk => hk.2) (.slice Ao27 t250.length co27)) (fun _ h_ => h_.1))) hb); have n4_ := Aside0.mk (Kd.R_below (by exact (Kd.R_mono (Kd.R_far (p := ⟨gb253, 4, none⟩) (Kd.R_far (p := ⟨gb253, 3, none⟩) (Kd.R_far (p := ⟨gb253, 2, none⟩) (Kd.R_far (p := ⟨gb253, 1, none⟩) (Kd.R_far (p := ⟨gb253, 0, none⟩) (Kd.R_types HO252.out BK253.out (by decide)) (fun _ hk => hk.2) (.slice Ao20 t238.length co20)) (fun _ hk => hk.2) (.slice Ao24 t241.length co24)) (fun _ hk => hk.2) (.slice Ao25 t244.length co25)) (fun _ hk => hk.2) (.slice Ao26 t247.length co26)) (fun _ hk => hk.2) (.slice Ao27 t250.length co27)) (fun _ h_ => h_.1))) hb); have n5_ := Aside0.mk (Kd.S_lower ho0 (below_size (by repeat (first | (with_reducible first | exact HB.out | refine below_set ?_ GE253.out))))); have n6_ := Aside0.mk (Kd.S_lower ho1 (below_size (by repeat (first | (with_reducible first | exact HB.out | refine below_set ?_ GE253.out))))); have n7_ := Aside0.mk (blk_below (g := gb235) (o := .cells #[.slice A0_0 l0_0.length c0_0, .slice A0_1 l0_1.length c0_1, .slice A0_2 l0_2.length c0_2, .slice A0_3 l0_3.length c0_3, .slice A0_4 l0_4.length c0_4] 27 (0, 0)) (by refine blk_far ?_ NB235_253.out _; refine blk_far ?_ NB235_253.out _; refine blk_far ?_ NB235_253.out _; refine blk_far ?_ NB235_253.out _; refine blk_far ?_ NB235_253.out _; exact BK235.out) hb); have n8_ := Aside0.mk (blk_below (g := gb236) (o := .cells #[.int .i64 a1_0, .int .i64 a1_1, .slice A1_2 l1_2.length c1_2, .slice A1_3 l1_3.length c1_3] 30 (0, 0)) (by refine blk_far ?_ NB236_253.out _; refine blk_far ?_ NB236_253.out _; refine blk_far ?_ NB236_253.out _; refine blk_far ?_ NB236_253.out _; refine blk_far ?_ NB236_253.out _; exact BK236.out) hb); have n9_ := Aside0.mk (blk_below (g := gb253) (o := .cells #[.slice Ao20 t238.length co20, .slice Ao24 t241.length co24, .slice Ao25 t244.length co25, .slice Ao26 t247.length co26, .slice Ao27 t250.length co27] 27 (0, 0)) (by refine blk_put (cs := #[.slice Ao20 t238.length co20, .slice Ao24 t241.length co24, .slice Ao25 t244.length co25, .slice Ao26 t247.length co26, .slice none 0 0]) ?_ 4 _ rfl; refine blk_put (cs := #[.slice Ao20 t238.length co20, .slice Ao24 t241.length co24, .slice Ao25 t244.length co25, .slice none 0 0, .slice none 0 0]) ?_ 3 _ rfl; refine blk_put (cs := #[.slice Ao20 t238.length co20, .slice Ao24 t241.length co24, .slice none 0 0, .slice none 0 0, .slice none 0 0]) ?_ 2 _ rfl; refine blk_put (cs := #[.slice Ao20 t238.length co20, .slice none 0 0, .slice none 0 0, .slice none 0 0, .slice none 0 0]) ?_ 1 _ rfl; refine blk_put (cs := #[.slice none 0 0, .slice none 0 0, .slice none 0 0, .slice none 0 0, .slice none 0 0]) ?_ 0 _ rfl; exact BK253.out) hb); have n10_ := Aside0.mk (below_step (by repeat (first | (with_reducible first | exact HB.out | refine below_set ?_ GE253.out))) hb); clear HO240; clear HO243; clear HO246; clear HO249; clear HO252; clear BK235; clear BK236; clear BK253; clear HB; have HO240 := n0_; have HO243 := n1_; have HO246 := n2_; have HO249 := n3_; have HO252 := n4_; have HO258 := n5_; have HO261 := n6_; have BK235 := n7_; have BK236 := n8_; have BK253 := n9_; have HB := n10_; clear n0_ n1_ n2_ n3_ n4_ n5_ n6_ n7_ n8_ n9_ n10_; (try clear hb); (try clear hb2); (try clear hk); (try clear hi); (try clear ho0); (try clear ho1)) | ((with_reducible refine gate_dst (N := 9) rfl ?_); refine box_event ?hg (N := 9) ?hd (cs := #[.int .i64 0, .int .i64 0, .slice none 0 0, .slice none 0 0]) (t := 30) ?hr ?_; (case hd => rfl); (case hg => rfl); (case hr => first | (go_simp; done)); intro gb262 hg w30 hbox hb; have n0_ := Aside0.mk (Kd.R_below HO240.out hb); have n1_ := Aside0.mk (Kd.R_below HO243.out hb); have n2_ := Aside0.mk (Kd.R_below HO246.out hb); have n3_ := Aside0.mk (Kd.R_below HO249.out hb); have n4_ := Aside0.mk (Kd.R_below HO252.out hb); have n5_ := Aside0.mk (Kd.S_below HO258.out hb); have n6_ := Aside0.mk (Kd.S_below HO261.out hb); have n7_ := Aside0.mk (blk_below BK235.out hb); have n8_ := Aside0.mk (blk_below BK236.out hb); have n9_ := Aside0.mk (blk_below BK253.out hb); have n10_ := Aside0.mk (below_step HB.out hb); have n11_ := Aside0.mk (hbox); have n12_ := Aside0.mk ((by rw [hg]; exact (below_size HB.out) : w.heap.size ≤ gb262)); have n13_ := Aside0.mk ((by rw [hg]; exact (below_size HB.out) : w.heap.size ≤ gb262)); have n14_ := Aside0.mk ((by rw [hg]; exact Nat.ne_of_lt (blk_lt BK235.out) : gb235 ≠ gb262)); have n15_ := Aside0.mk ((by rw [hg]; exact Nat.ne_of_gt (blk_lt BK235.out) : gb262 ≠ gb235)); have n16_ := Aside0.mk ((by rw [hg]; exact Nat.ne_of_lt (blk_lt BK236.out) : gb236 ≠ gb262)); have n17_ := Aside0.mk ((by rw [hg]; exact Nat.ne_of_gt (blk_lt BK236.out) : gb262 ≠ gb236)); have n18_ := Aside0.mk ((by rw [hg]; exact Nat.ne_of_lt (blk_lt BK253.out) : gb253 ≠ gb262)); have n19_ := Aside0.mk ((by rw [hg]; exact Nat.ne_of_gt (blk_lt BK253.out) : gb262 ≠ gb253)); clear HO240; clear HO243; clear HO246; clear HO249; clear HO252; clear HO258; clear HO261; clear BK235; clear BK236; clear BK253; clear HB; have HO240 := n0_; have HO243 := n1_; have HO246 := n2_; have HO249 := n3_; have HO252 := n4_; have HO258 := n5_; have HO261 := n6_; have BK235 := n7_; have BK236 := n8_; have BK253 := n9_; have HB := n10_; have BK262 := n11_; have GW262 := n12_; have GE262 := n13_; have NB235_262 := n14_; have NB262_235 := n15_; have NB236_262 := n16_; have NB262_236 := n17_; have NB253_262 := n18_; have NB262_253 := n19_; clear n0_ n1_ n2_ n3_ n4_ n5_ n6_ n7_ n8_ n9_ n10_ n11_ n12_ n13_ n14_ n15_ n16_ n17_ n18_ n19_; clear hb hbox hg; have hnb31 := NB262_235.out; have hnc31 := NB235_262.out; have hnb32 := NB262_236.out; have hnc32 := NB236_262.out; have hnb33 := NB262_253.out; have hnc33 := NB253_262.out; have hcz34_0 : w30.cell? ⟨gb262, 0, none⟩ = some (.int .i64 0) := (blk_cell BK262.out 0).trans rfl; have hcz34_1 : w30.cell? ⟨gb262, 1, none⟩ = some (.int .i64 0) := (blk_cell BK262.out 1).trans rfl; have hcz34_2 : w30.cell? ⟨gb262, 2, none⟩ = some (.slice none 0 0) := (blk_cell BK262.out 2).trans rfl; have hcz34_3 : w30.cell? ⟨gb262, 3, none⟩ = some (.slice none 0 0) := (blk_cell BK262.out 3).trans rfl; have hfz34_0 := blk_frozen BK262.out 0; have hfz34_1 := blk_frozen BK262.out 1; have hfz34_2 := blk_frozen BK262.out 2; have hfz34_3 := blk_frozen BK262.out 3; obtain ⟨Ao35, co35, eo35⟩ := Kd.S_slice HO258.out; subst eo35; obtain ⟨Ao36, co36, eo36⟩ := Kd.S_slice HO261.out; subst eo36; have hcz37_0 : w30.cell? ⟨gb236, 0, none⟩ = some (.int .i64 a1_0) := (blk_cell BK236.out 0).trans rfl; have hcz37_1 : w30.cell? ⟨gb236, 1, none⟩ = some (.int .i64 a1_1) := (blk_cell BK236.out 1).trans rfl; have hcz37_2 : w30.cell? ⟨gb236, 2, none⟩ = some (.slice A1_2 l1_2.length c1_2) := (blk_cell BK236.out 2).trans rfl; have hcz37_3 : w30.cell? ⟨gb236, 3, none⟩ = some (.slice A1_3 l1_3.length c1_3) := (blk_cell BK236.out 3).trans rfl; have hfz37_0 := blk_frozen BK236.out 0; have hfz37_1 := blk_frozen BK236.out 1; have hfz37_2 := blk_frozen BK236.out 2; have hfz37_3 := blk_frozen BK236.out 3) | ((with_reducible refine gate_dst (N := 23) rfl ?_); refine Kd.R_lit k40 _ 40 ?hg (N := 23) ?hd (xs := ([(⟨a2, a2, a1_1, a1_0⟩ : S40)] : List (S40))) (inner := [.int .i64 a2, .int .i64 a2, .int .i64 a1_1, .int .i64 a1_0]) (ok := fun _ => True) (okp := fun _ => True) ?hr ?hp (fun _ hk => hk) trivial (Below.refl _ _) (Nat.le_refl _) (by simp) ?_; (case hd => rfl); (case hg => rfl); (case hr => first | (go_simp; done)); (case hp => exact (Reps.c4 (show Kd.M k40 _ _ _ (⟨a2, a2, a1_1, a1_0⟩ : S40) [.int .i64 a2, .int .i64 a2, .int .i64 a1_1, .int .i64 a1_0] from (k40_mkM _ _ _ (⟨a2, a2, a1_1, a1_0⟩ : S40) )) (Reps.none _ _))); intro v264 w38 ho39 hb hg_ hnew_; clear hg_ hnew_; (first | rw [← Ny263.out] at ho39); have n0_ := Aside0.mk (Kd.R_below (by exact (Kd.R_mono (Kd.R_far (p := ⟨gb262, 3, none⟩) (Kd.R_far (p := ⟨gb262, 2, none⟩) (Kd.R_far (p := ⟨gb262, 1, none⟩) (Kd.R_far (p := ⟨gb262, 0, none⟩) (Kd.R_types HO240.out BK262.out (by decide)) (fun _ hk => hk.2) (.int .i64 t254)) (fun _ hk => hk.2) (.int .i64 t255)) (fun _ hk => hk.2) (.slice Ao35 t256.length co35)) (fun _ hk => hk.2) (.slice Ao36 t259.length co36)) (fun _ h_ => h_.1))) hb); have n1_ := Aside0.mk (Kd.R_below (by exact (Kd.R_mono (Kd.R_far (p := ⟨gb262, 3, none⟩) (Kd.R_far (p := ⟨gb262, 2, none⟩) (Kd.R_far (p := ⟨gb262, 1, none⟩) (Kd.R_far (p := ⟨gb262, 0, none⟩) (Kd.R_types HO243.out BK262.out (by decide)) (fun _ hk => hk.2) (.int .i64 t254)) (fun _ hk => hk.2) (.int .i64 t255)) (fun _ hk => hk.2) (.slice Ao35 t256.length co35)) (fun _ hk => hk.2) (.slice Ao36 t259.length co36)) (fun _ h_ => h_.1))) hb); have n2_ := Aside0.mk (Kd.R_below (by exact (Kd.R_mono (Kd.R_far (p := ⟨gb262, 3, none⟩) (Kd.R_far (p := ⟨gb262, 2, none⟩) (Kd.R_far (p := ⟨gb262, 1, none⟩) (Kd.R_far (p := ⟨gb262, 0, none⟩) (Kd.R_types HO246.out BK262.out (by decide)) (fun _ hk => hk.2) (.int .i64 t254)) (fun _ hk => hk.2) (.int .i64 t255)) (fun _ hk => hk.2) (.slice Ao35 t256.length co35)) (fun _ hk => hk.2) (.slice Ao36 t259.length co36)) (fun _ h_ => h_.1))) hb); have n3_ := Aside0.mk (Kd.R_below (by exact (Kd.R_mono (Kd.R_far (p := ⟨gb262, 3, none⟩) (Kd.R_far (p := ⟨gb262, 2, none⟩) (Kd.R_far (p := ⟨gb262, 1, none⟩) (Kd.R_far (p := ⟨gb262, 0, none⟩) (Kd.R_types HO249.out BK262.out (by decide)) (fun _ hk => hk.2) (.int .i64 t254)) (fun _ hk => hk.2) (.int .i64 t255)) (fun _ hk => hk.2) (.slice Ao35 t256.length co35)) (fun _ hk => hk.2) (.slice Ao36 t259.length co36)) (fun _ h_ => h_.1))) hb); have n4_ := Aside0.mk (Kd.R_below (by exact (Kd.R_mono (Kd.R_far (p := ⟨gb262, 3, none⟩) (Kd.R_far (p := ⟨gb262, 2, none⟩) (Kd.R_far (p := ⟨gb262, 1, none⟩) (Kd.R_far (p := ⟨gb262, 0, none⟩) (Kd.R_types HO252.out BK262.out (by decide)) (fun _ hk => hk.2) (.int .i64 t254)) (fun _ hk => hk.2) (.int .i64 t255)) (fun _ hk => hk.2) (.slice Ao35 t256.length co35)) (fun _ hk => hk.2) (.slice Ao36 t259.length co36)) (fun _ h_ => h_.1))) hb); have n5_ := Aside0.mk (Kd.S_below (by exact (Kd.S_mono (Kd.S_far (p := ⟨gb262, 3, none⟩) (Kd.S_far (p := ⟨gb262, 2, none⟩) (Kd.S_far (p := ⟨gb262, 1, none⟩) (Kd.S_far (p := ⟨gb262, 0, none⟩) (Kd.S_types HO258.out BK262.out (by decide)) (fun _ hk => hk.2) (.int .i64 t254)) (fun _ hk => hk.2) (.int .i64 t255)) (fun _ hk => hk.2) (.slice Ao35 t256.length co35)) (fun _ hk => hk.2) (.slice Ao36 t259.length co36)) (fun _ h_ => h_.1))) hb); have n6_ := Aside0.mk (Kd.S_below (by exact (Kd.S_mono (Kd.S_far (p := ⟨gb262, 3, none⟩) (Kd.S_far (p := ⟨gb262, 2, none⟩) (Kd.S_far (p := ⟨gb262, 1, none⟩) (Kd.S_far (p := ⟨gb262, 0, none⟩) (Kd.S_types HO261.out BK262.out (by decide)) (fun _ hk => hk.2) (.int .i64 t254)) (fun _ hk => hk.2) (.int .i64 t255)) (fun _ hk => hk.2) (.slice Ao35 t256.length co35)) (fun _ hk => hk.2) (.slice Ao36 t259.length co36)) (fun _ h_ => h_.1))) hb); have n7_ := Aside0.mk (Kd.R_lower ho39 (below_size (by repeat (first | (with_reducible first | exact HB.out | refine below_set ?_ GE262.out))))); have n8_ := Aside0.mk (blk_below (g := gb235) (o := .cells #[.slice A0_0 l0_0.length c0_0, .slice A0_1 l0_1.length c0_1, .slice A0_2 l0_2.length c0_2, .slice A0_3 l0_3.length c0_3, .slice A0_4 l0_4.length c0_4] 27 (0, 0)) (by refine blk_far ?_ NB235_262.out _; refine blk_far ?_ NB235_262.out _; refine blk_far ?_ NB235_262.out _; refine blk_far ?_ NB235_262.out _; exact BK235.out) hb); have n9_ := Aside0.mk (blk_below (g := gb236) (o := .cells #[.int .i64 a1_0, .int .i64 a1_1, .slice A1_2 l1_2.length c1_2, .slice A1_3 l1_3.length c1_3] 30 (0, 0)) (by refine blk_far ?_ NB236_262.out _; refine blk_far ?_ NB236_262.out _; refine blk_far ?_ NB236_262.out _; refine blk_far ?_ NB236_262.out _; exact BK236.out) hb); have n10_ := Aside0.mk (blk_below (g := gb253) (o := .cells #[.slice Ao20 t238.length co20, .slice Ao24 t241.length co24, .slice Ao25 t244.length co25, .slice Ao26 t247.length co26, .slice Ao27 t250.length co27] 27 (0, 0)) (by refine blk_far ?_ NB253_262.out _; refine blk_far ?_ NB253_262.out _; refine blk_far ?_ NB253_262.out _; refine blk_far ?_ NB253_262.out _; exact BK253.out) hb); have n11_ := Aside0.mk (blk_below (g := gb262) (o := .cells #[.int .i64 t254, .int .i64 t255, .slice Ao35 t256.length co35, .slice Ao36 t259.length co36] 30 (0, 0)) (by refine blk_put (cs := #[.int .i64 t254, .int .i64 t255, .slice Ao35 t256.length co35, .slice none 0 0]) ?_ 3 _ rfl; refine blk_put (cs := #[.int .i64 t254, .int .i64 t255, .slice none 0 0, .slice none 0 0]) ?_ 2 _ rfl; refine blk_put (cs := #[.int .i64 t254, .int .i64 0, .slice none 0 0, .slice none 0 0]) ?_ 1 _ rfl; refine blk_put (cs := #[.int .i64 0, .int .i64 0, .slice none 0 0, .slice none 0 0]) ?_ 0 _ rfl; exact BK262.out) hb); have n12_ := Aside0.mk (below_step (by repeat (first | (with_reducible first | exact HB.out | refine below_set ?_ GE262.out))) hb); clear HO240; clear HO243; clear HO246; clear HO249; clear HO252; clear HO258; clear HO261; clear BK235; clear BK236; clear BK253; clear BK262; clear HB; have HO240 := n0_; have HO243 := n1_; have HO246 := n2_; have HO249 := n3_; have HO252 := n4_; have HO258 := n5_; have HO261 := n6_; have HO265 := n7_; have BK235 := n8_; have BK236 := n9_; have BK253 := n10_; have BK262 := n11_; have HB := n12_; clear n0_ n1_ n2_ n3_ n4_ n5_ n6_ n7_ n8_ n9_ n10_ n11_ n12_; clear hb ho39))
      have n0_ := Aside0.mk (Kd.R_drew HO240.out)
      have n1_ := Aside0.mk (Kd.R_drew HO243.out)
      have n2_ := Aside0.mk (Kd.R_drew HO246.out)
      have n3_ := Aside0.mk (Kd.R_drew HO249.out)
      have n4_ := Aside0.mk (Kd.R_drew HO252.out)
      have n5_ := Aside0.mk (Kd.S_drew HO258.out)
      have n6_ := Aside0.mk (Kd.S_drew HO261.out)
      have n7_ := Aside0.mk (Kd.R_drew HO265.out)
      have n8_ := Aside0.mk (blk_drew BK235.out)
      have n9_ := Aside0.mk (blk_drew BK236.out)
      have n10_ := Aside0.mk (blk_drew BK253.out)
      have n11_ := Aside0.mk (blk_drew BK262.out)
      have n12_ := Aside0.mk (below_drew1 HB.out)
      clear HO240
      clear HO243
      clear HO246
      clear HO249
      clear HO252
      clear HO258
      clear HO261
      clear HO265
      clear BK235
      clear BK236
      clear BK253
      clear BK262
      clear HB
      have HO240 := n0_
      have HO243 := n1_
      have HO246 := n2_
      have HO249 := n3_
      have HO252 := n4_
      have HO258 := n5_
      have HO261 := n6_
      have HO265 := n7_
      have BK235 := n8_
      have BK236 := n9_
      have BK253 := n10_
      have BK262 := n11_
      have HB := n12_
      clear n0_ n1_ n2_ n3_ n4_ n5_ n6_ n7_ n8_ n9_ n10_ n11_ n12_
      refine start_ (n := 20) (S := fun w' => w'.cell? ⟨gb253, 0, none⟩ = some (.slice Ao20 t238.length co20) ∧ w'.cell? ⟨gb253, 1, none⟩ = some (.slice Ao24 t241.length co24) ∧ w'.cell? ⟨gb253, 2, none⟩ = some (.slice Ao25 t244.length co25) ∧ w'.cell? ⟨gb253, 3, none⟩ = some (.slice Ao26 t247.length co26) ∧ w'.cell? ⟨gb253, 4, none⟩ = some (.slice Ao27 t250.length co27) ∧ w'.cell? ⟨gb262, 0, none⟩ = some (.int .i64 t254) ∧ w'.cell? ⟨gb262, 1, none⟩ = some (.int .i64 t255) ∧ w'.cell? ⟨gb262, 2, none⟩ = some (.slice Ao35 t256.length co35) ∧ w'.cell? ⟨gb262, 3, none⟩ = some (.slice Ao36 t259.length co36)) (ds := []) #[false, false, false, false, false, false, false, false, false, false, false, false, false, false, false, false, false, false, false, false] (by kernel_rfl) rfl rfl ⟨(blk_cell BK253.out 0).trans rfl, (blk_cell BK253.out 1).trans rfl, (blk_cell BK253.out 2).trans rfl, (blk_cell BK253.out 3).trans rfl, (blk_cell BK253.out 4).trans rfl, (blk_cell BK262.out 0).trans rfl, (blk_cell BK262.out 1).trans rfl, (blk_cell BK262.out 2).trans rfl, (blk_cell BK262.out 3).trans rfl⟩ (fun hHeld => ?_); refine with_tabW proofmarklaw30_ReportOdd.tab5 proofmarklaw30_ReportOdd.bits5 (fun HT_ HW_ => ?_)
      generalize w38.drew = w40 at HO240 HO243 HO246 HO249 HO252 HO258 HO261 HO265 BK235 BK236 BK253 BK262 HB hHeld ⊢
      refine pure_ (i := 0) (N := some 24) (v := ?_) (a' := ?_) #[true, false, false, false, false, false, false, false, false, false, false, false, false, false, false, false, false, false, false, false] rfl rfl (any_of HT_.out (by kernel_rfl)) (fun _ _ _ h => h) (Or.inl ⟨by rfl, ?_⟩) ?_ ?_
      rotate_left
      · intro w'
        go_simp
        with_reducible rfl
      rotate_left
      · simp only [Act.put, List.setIfInBounds_toArray, List.set_cons_zero, List.set_cons_succ, i64_w, i32_w]
        rfl
      refine pure_ (i := 1) (N := some 25) (v := ?_) (a' := ?_) #[true, true, false, false, false, false, false, false, false, false, false, false, false, false, false, false, false, false, false, false] rfl rfl (any_of HT_.out (by kernel_rfl)) (fun _ _ _ h => h) (Or.inl ⟨by rfl, ?_⟩) ?_ ?_
      rotate_left
      · intro w'
        go_simp
        with_reducible rfl
      rotate_left
      · simp only [Act.put, List.setIfInBounds_toArray, List.set_cons_zero, List.set_cons_succ, i64_w, i32_w]
        rfl
      refine pure_ (i := 3) (N := some 27) (v := ?_) (a' := ?_) #[true, true, false, true, false, false, false, false, false, false, false, false, false, false, false, false, false, false, false, false] rfl rfl (any_of HT_.out (by kernel_rfl)) (fun _ _ _ h => h) (Or.inl ⟨by rfl, ?_⟩) ?_ ?_
      rotate_left
      · intro w'
        go_simp
        with_reducible rfl
      rotate_left
      · simp only [Act.put, List.setIfInBounds_toArray, List.set_cons_zero, List.set_cons_succ, i64_w, i32_w]
        rfl
      refine pure_ (i := 7) (N := some 31) (v := ?_) (a' := ?_) #[true, true, false, true, false, false, false, true, false, false, false, false, false, false, false, false, false, false, false, false] rfl rfl (any_of HT_.out (by kernel_rfl)) (fun _ _ _ h => h) (Or.inl ⟨by rfl, ?_⟩) ?_ ?_
      rotate_left
      · intro w'
        go_simp
        with_reducible rfl
      rotate_left
      · simp only [Act.put, List.setIfInBounds_toArray, List.set_cons_zero, List.set_cons_succ, i64_w, i32_w]
        rfl
      refine take_ (i := 2) (N := some 26) (v := ?_) (a' := ?_) #[true, true, true, true, false, false, false, true, false, false, false, false, false, false, false, false, false, false, false, false] rfl rfl (take_ofW HT_.out HW_.out (by kernel_rfl)) (fun _ _ _ h => h) (Or.inl ⟨by rfl, ?_⟩) hHeld ?_ ?_
      rotate_left
      · rintro w' ⟨s0, s1, s2, s3, s4, s5, s6, s7, s8⟩
        go_simp
        with_reducible rfl
      rotate_left
      · simp only [Act.put, List.setIfInBounds_toArray, List.set_cons_zero, List.set_cons_succ, i64_w, i32_w]
        rfl
      refine take_ (i := 4) (N := some 28) (v := ?_) (a' := ?_) #[true, true, true, true, true, false, false, true, false, false, false, false, false, false, false, false, false, false, false, false] rfl rfl (take_ofW HT_.out HW_.out (by kernel_rfl)) (fun _ _ _ h => h) (Or.inl ⟨by rfl, ?_⟩) hHeld ?_ ?_
      rotate_left
      · rintro w' ⟨s0, s1, s2, s3, s4, s5, s6, s7, s8⟩
        go_simp
        with_reducible rfl
      rotate_left
      · simp only [Act.put, List.setIfInBounds_toArray, List.set_cons_zero, List.set_cons_succ, i64_w, i32_w]
        rfl
      refine take_ (i := 6) (N := some 30) (v := ?_) (a' := ?_) #[true, true, true, true, true, false, true, true, false, false, false, false, false, false, false, false, false, false, false, false] rfl rfl (take_ofW HT_.out HW_.out (by kernel_rfl)) (fun _ _ _ h => h) (Or.inl ⟨by rfl, ?_⟩) hHeld ?_ ?_
      rotate_left
      · rintro w' ⟨s0, s1, s2, s3, s4, s5, s6, s7, s8⟩
        go_simp
        with_reducible rfl
      rotate_left
      · simp only [Act.put, List.setIfInBounds_toArray, List.set_cons_zero, List.set_cons_succ, i64_w, i32_w]
        rfl
      refine take_ (i := 8) (N := some 32) (v := ?_) (a' := ?_) #[true, true, true, true, true, false, true, true, true, false, false, false, false, false, false, false, false, false, false, false] rfl rfl (take_ofW HT_.out HW_.out (by kernel_rfl)) (fun _ _ _ h => h) (Or.inl ⟨by rfl, ?_⟩) hHeld ?_ ?_
      rotate_left
      · rintro w' ⟨s0, s1, s2, s3, s4, s5, s6, s7, s8⟩
        go_simp
        with_reducible rfl
      rotate_left
      · simp only [Act.put, List.setIfInBounds_toArray, List.set_cons_zero, List.set_cons_succ, i64_w, i32_w]
        rfl
      refine one_ (i := 5) (N := some 29) #[true, true, true, true, true, true, true, true, true, false, false, false, false, false, false, false, false, false, false, false] rfl rfl (one_of HT_.out (by kernel_rfl)) (by decide) (fun K hK => ?_)
      refine goes_ Tryd.func16 (by kernel_rfl) rfl #[.agg #[.slice Ao20 t238.length co20, .slice Ao24 t241.length co24, .slice Ao25 t244.length co25, .slice Ao26 t247.length co26, .slice Ao27 t250.length co27], .int .i64 a2, .agg #[.int .i64 t254, .int .i64 t255, .slice Ao35 t256.length co35, .slice Ao36 t259.length co36]] (by rfl) rfl rfl (by (try simp only [List.map_toArray, List.map_cons, List.map_nil]); first | rfl) ?_
      with_reducible refine (report_Verdict.calls k _ _ t238 _ _ t241 _ _ t244 _ _ t247 _ _ t250 a2 t254 t255 _ _ t256 _ _ t259 t266 _ (by first | (refine tab_below HG.out ?_; repeat (first | (with_reducible first | exact HB.out)))) ?side1 ?side2 ?side3 ?side4 ?side5 ?side6 ?side7 ?side8 ?side9 ?side10 ?side11 ?side12 ?side13 ?side14 A8.out).mono ?_
      (case side1 => repeat (first | exact (Kd.R_reads' HO240.out).2.2))
      (case side2 => exact (Kd.R_reads' HO240.out).2.1)
      (case side3 => repeat (first | exact (Kd.R_reads' HO243.out).2.2))
      (case side4 => exact (Kd.R_reads' HO243.out).2.1)
      (case side5 => repeat (first | exact (Kd.R_reads' HO246.out).2.2))
      (case side6 => exact (Kd.R_reads' HO246.out).2.1)
      (case side7 => repeat (first | exact (Kd.R_reads' HO249.out).2.2))
      (case side8 => exact (Kd.R_reads' HO249.out).2.1)
      (case side9 => repeat (first | exact (Kd.R_reads' HO252.out).2.2))
      (case side10 => exact (Kd.R_reads' HO252.out).2.1)
      (case side11 => repeat (first | exact (Kd.S_reads' HO258.out).2.2))
      (case side12 => exact (Kd.S_reads' HO258.out).2.1)
      (case side13 => repeat (first | exact (Kd.S_reads' HO261.out).2.2))
      (case side14 => exact (Kd.S_reads' HO261.out).2.1)
      rintro e w41 ⟨rfl, hb⟩
      refine ⟨_, rfl, ?_⟩
      have n0_ := Aside0.mk (Kd.R_below HO240.out hb)
      have n1_ := Aside0.mk (Kd.R_below HO243.out hb)
      have n2_ := Aside0.mk (Kd.R_below HO246.out hb)
      have n3_ := Aside0.mk (Kd.R_below HO249.out hb)
      have n4_ := Aside0.mk (Kd.R_below HO252.out hb)
      have n5_ := Aside0.mk (Kd.S_below HO258.out hb)
      have n6_ := Aside0.mk (Kd.S_below HO261.out hb)
      have n7_ := Aside0.mk (Kd.R_below HO265.out hb)
      have n8_ := Aside0.mk (blk_below BK235.out hb)
      have n9_ := Aside0.mk (blk_below BK236.out hb)
      have n10_ := Aside0.mk (blk_below BK253.out hb)
      have n11_ := Aside0.mk (blk_below BK262.out hb)
      have n12_ := Aside0.mk (below_step HB.out hb)
      clear HO240
      clear HO243
      clear HO246
      clear HO249
      clear HO252
      clear HO258
      clear HO261
      clear HO265
      clear BK235
      clear BK236
      clear BK253
      clear BK262
      clear HB
      have HO240 := n0_
      have HO243 := n1_
      have HO246 := n2_
      have HO249 := n3_
      have HO252 := n4_
      have HO258 := n5_
      have HO261 := n6_
      have HO265 := n7_
      have BK235 := n8_
      have BK236 := n9_
      have BK253 := n10_
      have BK262 := n11_
      have HB := n12_
      clear n0_ n1_ n2_ n3_ n4_ n5_ n6_ n7_ n8_ n9_ n10_ n11_ n12_
      (try clear hb)
      (try clear hb2)
      (try clear hk)
      (try clear hi)
      refine hK.out _ _ ⟨(blk_cell BK253.out 0).trans rfl, (blk_cell BK253.out 1).trans rfl, (blk_cell BK253.out 2).trans rfl, (blk_cell BK253.out 3).trans rfl, (blk_cell BK253.out 4).trans rfl, (blk_cell BK262.out 0).trans rfl, (blk_cell BK262.out 1).trans rfl, (blk_cell BK262.out 2).trans rfl, (blk_cell BK262.out 3).trans rfl⟩ (fun hHeld => ?_)
      clear hK K
      refine norm_ (a' := ?_) ?_ ?_
      rotate_left
      · show Act.put _ (some 29) _ = _
        simp only [Act.put, List.setIfInBounds_toArray, List.set_cons_zero, List.set_cons_succ, i64_w, i32_w]
        rfl
      refine one_ (i := 9) (N := some 33) #[true, true, true, true, true, true, true, true, true, true, false, false, false, false, false, false, false, false, false, false] rfl rfl (one_of HT_.out (by kernel_rfl)) (by decide) (fun K hK => ?_)
      refine goes_ Tryd.func17 (by kernel_rfl) rfl #[.agg #[.slice Ao20 t238.length co20, .slice Ao24 t241.length co24, .slice Ao25 t244.length co25, .slice Ao26 t247.length co26, .slice Ao27 t250.length co27], .int .i64 a2, .agg #[.int .i64 t254, .int .i64 t255, .slice Ao35 t256.length co35, .slice Ao36 t259.length co36]] (by rfl) rfl rfl (by (try simp only [List.map_toArray, List.map_cons, List.map_nil]); first | rfl) ?_
      with_reducible refine (proofmarkref30_Verdict.calls k _ _ t238 _ _ t241 _ _ t244 _ _ t247 _ _ t250 a2 t254 t255 _ _ t256 _ _ t259 t267 _ ?side1 ?side2 ?side3 ?side4 ?side5 ?side6 ?side7 ?side8 ?side9 ?side10 ?side11 ?side12 ?side13 ?side14 A9.out).mono ?_
      (case side1 => repeat (first | exact (Kd.R_reads' HO240.out).2.2))
      (case side2 => exact (Kd.R_reads' HO240.out).2.1)
      (case side3 => repeat (first | exact (Kd.R_reads' HO243.out).2.2))
      (case side4 => exact (Kd.R_reads' HO243.out).2.1)
      (case side5 => repeat (first | exact (Kd.R_reads' HO246.out).2.2))
      (case side6 => exact (Kd.R_reads' HO246.out).2.1)
      (case side7 => repeat (first | exact (Kd.R_reads' HO249.out).2.2))
      (case side8 => exact (Kd.R_reads' HO249.out).2.1)
      (case side9 => repeat (first | exact (Kd.R_reads' HO252.out).2.2))
      (case side10 => exact (Kd.R_reads' HO252.out).2.1)
      (case side11 => repeat (first | exact (Kd.S_reads' HO258.out).2.2))
      (case side12 => exact (Kd.S_reads' HO258.out).2.1)
      (case side13 => repeat (first | exact (Kd.S_reads' HO261.out).2.2))
      (case side14 => exact (Kd.S_reads' HO261.out).2.1)
      rintro e w42 ⟨rfl, hb⟩
      refine ⟨_, rfl, ?_⟩
      have n0_ := Aside0.mk (Kd.R_below HO240.out hb)
      have n1_ := Aside0.mk (Kd.R_below HO243.out hb)
      have n2_ := Aside0.mk (Kd.R_below HO246.out hb)
      have n3_ := Aside0.mk (Kd.R_below HO249.out hb)
      have n4_ := Aside0.mk (Kd.R_below HO252.out hb)
      have n5_ := Aside0.mk (Kd.S_below HO258.out hb)
      have n6_ := Aside0.mk (Kd.S_below HO261.out hb)
      have n7_ := Aside0.mk (Kd.R_below HO265.out hb)
      have n8_ := Aside0.mk (blk_below BK235.out hb)
      have n9_ := Aside0.mk (blk_below BK236.out hb)
      have n10_ := Aside0.mk (blk_below BK253.out hb)
      have n11_ := Aside0.mk (blk_below BK262.out hb)
      have n12_ := Aside0.mk (below_step HB.out hb)
      clear HO240
      clear HO243
      clear HO246
      clear HO249
      clear HO252
      clear HO258
      clear HO261
      clear HO265
      clear BK235
      clear BK236
      clear BK253
      clear BK262
      clear HB
      have HO240 := n0_
      have HO243 := n1_
      have HO246 := n2_
      have HO249 := n3_
      have HO252 := n4_
      have HO258 := n5_
      have HO261 := n6_
      have HO265 := n7_
      have BK235 := n8_
      have BK236 := n9_
      have BK253 := n10_
      have BK262 := n11_
      have HB := n12_
      clear n0_ n1_ n2_ n3_ n4_ n5_ n6_ n7_ n8_ n9_ n10_ n11_ n12_
      (try clear hb)
      (try clear hb2)
      (try clear hk)
      (try clear hi)
      obtain ⟨Ao43, co43, eo43⟩ := Kd.R_slice HO265.out
      (first | subst eo43)
      refine hK.out _ _ ⟨(blk_cell BK253.out 0).trans rfl, (blk_cell BK253.out 1).trans rfl, (blk_cell BK253.out 2).trans rfl, (blk_cell BK253.out 3).trans rfl, (blk_cell BK253.out 4).trans rfl, (blk_cell BK262.out 0).trans rfl, (blk_cell BK262.out 1).trans rfl, (blk_cell BK262.out 2).trans rfl, (blk_cell BK262.out 3).trans rfl⟩ (fun hHeld => ?_)
      clear hK K
      refine norm_ (a' := ?_) ?_ ?_
      rotate_left
      · show Act.put _ (some 33) _ = _
        simp only [Act.put, List.setIfInBounds_toArray, List.set_cons_zero, List.set_cons_succ, i64_w, i32_w]
        rfl
      refine pure_ (i := 10) (N := some 34) (v := ?_) (a' := ?_) #[true, true, true, true, true, true, true, true, true, true, true, false, false, false, false, false, false, false, false, false] rfl rfl (any_of HT_.out (by kernel_rfl)) (fun _ _ _ h => h) (Or.inl ⟨by rfl, ?_⟩) ?_ ?_
      rotate_left
      · intro w'
        go_simp
        with_reducible rfl
      rotate_left
      · simp only [Act.put, List.setIfInBounds_toArray, List.set_cons_zero, List.set_cons_succ, i64_w, i32_w]
        rfl
      refine pure_ (i := 11) (N := some 35) (v := ?_) (a' := ?_) #[true, true, true, true, true, true, true, true, true, true, true, true, false, false, false, false, false, false, false, false] rfl rfl (any_of HT_.out (by kernel_rfl)) (fun _ _ _ h => h) (Or.inl ⟨by rfl, ?_⟩) ?_ ?_
      rotate_left
      · intro w'
        go_simp
        with_reducible rfl
      rotate_left
      · simp only [Act.put, List.setIfInBounds_toArray, List.set_cons_zero, List.set_cons_succ, i64_w, i32_w]
        rfl
      refine pure_ (i := 12) (N := some 36) (v := ?_) (a' := ?_) #[true, true, true, true, true, true, true, true, true, true, true, true, true, false, false, false, false, false, false, false] rfl rfl (any_of HT_.out (by kernel_rfl)) (fun _ _ _ h => h) (Or.inl ⟨by rfl, ?_⟩) ?_ ?_
      rotate_left
      · intro w'
        go_simp
        with_reducible rfl
      rotate_left
      · simp only [Act.put, List.setIfInBounds_toArray, List.set_cons_zero, List.set_cons_succ, i64_w, i32_w]
        rfl
      refine pure_ (i := 13) (N := some 37) (v := ?_) (a' := ?_) #[true, true, true, true, true, true, true, true, true, true, true, true, true, true, false, false, false, false, false, false] rfl rfl (any_of HT_.out (by kernel_rfl)) (fun _ _ _ h => h) (Or.inl ⟨by rfl, ?_⟩) ?_ ?_
      rotate_left
      · intro w'
        go_simp
        with_reducible rfl
      rotate_left
      · simp only [Act.put, List.setIfInBounds_toArray, List.set_cons_zero, List.set_cons_succ, i64_w, i32_w]
        rfl
      refine pure_ (i := 15) (N := some 39) (v := ?_) (a' := ?_) #[true, true, true, true, true, true, true, true, true, true, true, true, true, true, false, true, false, false, false, false] rfl rfl (any_of HT_.out (by kernel_rfl)) (fun _ _ _ h => h) (Or.inl ⟨by rfl, ?_⟩) ?_ ?_
      rotate_left
      · intro w'
        go_simp
        with_reducible rfl
      rotate_left
      · simp only [Act.put, List.setIfInBounds_toArray, List.set_cons_zero, List.set_cons_succ, i64_w, i32_w]
        rfl
      refine one_ (i := 14) (N := some 38) #[true, true, true, true, true, true, true, true, true, true, true, true, true, true, true, true, false, false, false, false] rfl rfl (one_of HT_.out (by kernel_rfl)) (by decide) (fun K hK => ?_)
      refine goes_ Tryd.func18 (by kernel_rfl) rfl #[.slice Ao43 y263.length co43] (by rfl) rfl rfl (by (try simp only [List.map_toArray, List.map_cons, List.map_nil]); first | rfl) ?_
      with_reducible refine (report_Faults.calls _ _ y263 t268 _ (by first | (refine tab_below HG.out ?_; repeat (first | (with_reducible first | exact HB.out)))) ?side1 ?side2 A11.out).mono ?_
      (case side1 => repeat (first | exact (Kd.R_reads' HO265.out).2.2))
      (case side2 => exact (Kd.R_reads' HO265.out).2.1)
      rintro e w44 ⟨rfl, hb⟩
      refine ⟨_, rfl, ?_⟩
      have n0_ := Aside0.mk (Kd.R_below HO240.out hb)
      have n1_ := Aside0.mk (Kd.R_below HO243.out hb)
      have n2_ := Aside0.mk (Kd.R_below HO246.out hb)
      have n3_ := Aside0.mk (Kd.R_below HO249.out hb)
      have n4_ := Aside0.mk (Kd.R_below HO252.out hb)
      have n5_ := Aside0.mk (Kd.S_below HO258.out hb)
      have n6_ := Aside0.mk (Kd.S_below HO261.out hb)
      have n7_ := Aside0.mk (Kd.R_below HO265.out hb)
      have n8_ := Aside0.mk (blk_below BK235.out hb)
      have n9_ := Aside0.mk (blk_below BK236.out hb)
      have n10_ := Aside0.mk (blk_below BK253.out hb)
      have n11_ := Aside0.mk (blk_below BK262.out hb)
      have n12_ := Aside0.mk (below_step HB.out hb)
      clear HO240
      clear HO243
      clear HO246
      clear HO249
      clear HO252
      clear HO258
      clear HO261
      clear HO265
      clear BK235
      clear BK236
      clear BK253
      clear BK262
      clear HB
      have HO240 := n0_
      have HO243 := n1_
      have HO246 := n2_
      have HO249 := n3_
      have HO252 := n4_
      have HO258 := n5_
      have HO261 := n6_
      have HO265 := n7_
      have BK235 := n8_
      have BK236 := n9_
      have BK253 := n10_
      have BK262 := n11_
      have HB := n12_
      clear n0_ n1_ n2_ n3_ n4_ n5_ n6_ n7_ n8_ n9_ n10_ n11_ n12_
      (try clear hb)
      (try clear hb2)
      (try clear hk)
      (try clear hi)
      refine hK.out _ _ ⟨(blk_cell BK253.out 0).trans rfl, (blk_cell BK253.out 1).trans rfl, (blk_cell BK253.out 2).trans rfl, (blk_cell BK253.out 3).trans rfl, (blk_cell BK253.out 4).trans rfl, (blk_cell BK262.out 0).trans rfl, (blk_cell BK262.out 1).trans rfl, (blk_cell BK262.out 2).trans rfl, (blk_cell BK262.out 3).trans rfl⟩ (fun hHeld => ?_)
      clear hK K
      refine norm_ (a' := ?_) ?_ ?_
      rotate_left
      · show Act.put _ (some 38) _ = _
        simp only [Act.put, List.setIfInBounds_toArray, List.set_cons_zero, List.set_cons_succ, i64_w, i32_w]
        rfl
      refine one_ (i := 16) (N := some 40) #[true, true, true, true, true, true, true, true, true, true, true, true, true, true, true, true, true, false, false, false] rfl rfl (one_of HT_.out (by kernel_rfl)) (by decide) (fun K hK => ?_)
      refine goes_ Tryd.func19 (by kernel_rfl) rfl #[.slice Ao43 y263.length co43] (by rfl) rfl rfl (by (try simp only [List.map_toArray, List.map_cons, List.map_nil]); first | rfl) ?_
      with_reducible refine (proofmarkref30_Faults.calls _ _ y263 t269 _ ?side1 ?side2 A12.out).mono ?_
      (case side1 => repeat (first | exact (Kd.R_reads' HO265.out).2.2))
      (case side2 => exact (Kd.R_reads' HO265.out).2.1)
      rintro e w45 ⟨rfl, hb⟩
      refine ⟨_, rfl, ?_⟩
      have n0_ := Aside0.mk (Kd.R_below HO240.out hb)
      have n1_ := Aside0.mk (Kd.R_below HO243.out hb)
      have n2_ := Aside0.mk (Kd.R_below HO246.out hb)
      have n3_ := Aside0.mk (Kd.R_below HO249.out hb)
      have n4_ := Aside0.mk (Kd.R_below HO252.out hb)
      have n5_ := Aside0.mk (Kd.S_below HO258.out hb)
      have n6_ := Aside0.mk (Kd.S_below HO261.out hb)
      have n7_ := Aside0.mk (Kd.R_below HO265.out hb)
      have n8_ := Aside0.mk (blk_below BK235.out hb)
      have n9_ := Aside0.mk (blk_below BK236.out hb)
      have n10_ := Aside0.mk (blk_below BK253.out hb)
      have n11_ := Aside0.mk (blk_below BK262.out hb)
      have n12_ := Aside0.mk (below_step HB.out hb)
      clear HO240
      clear HO243
      clear HO246
      clear HO249
      clear HO252
      clear HO258
      clear HO261
      clear HO265
      clear BK235
      clear BK236
      clear BK253
      clear BK262
      clear HB
      have HO240 := n0_
      have HO243 := n1_
      have HO246 := n2_
      have HO249 := n3_
      have HO252 := n4_
      have HO258 := n5_
      have HO261 := n6_
      have HO265 := n7_
      have BK235 := n8_
      have BK236 := n9_
      have BK253 := n10_
      have BK262 := n11_
      have HB := n12_
      clear n0_ n1_ n2_ n3_ n4_ n5_ n6_ n7_ n8_ n9_ n10_ n11_ n12_
      (try clear hb)
      (try clear hb2)
      (try clear hk)
      (try clear hi)
      refine hK.out _ _ ⟨(blk_cell BK253.out 0).trans rfl, (blk_cell BK253.out 1).trans rfl, (blk_cell BK253.out 2).trans rfl, (blk_cell BK253.out 3).trans rfl, (blk_cell BK253.out 4).trans rfl, (blk_cell BK262.out 0).trans rfl, (blk_cell BK262.out 1).trans rfl, (blk_cell BK262.out 2).trans rfl, (blk_cell BK262.out 3).trans rfl⟩ (fun hHeld => ?_)
      clear hK K
      refine norm_ (a' := ?_) ?_ ?_
      rotate_left
      · show Act.put _ (some 40) _ = _
        simp only [Act.put, List.setIfInBounds_toArray, List.set_cons_zero, List.set_cons_succ, i64_w, i32_w]
        rfl
      refine pure_ (i := 17) (N := some 41) (v := ?_) (a' := ?_) #[true, true, true, true, true, true, true, true, true, true, true, true, true, true, true, true, true, true, false, false] rfl rfl (any_of HT_.out (by kernel_rfl)) (fun _ _ _ h => h) (Or.inl ⟨by rfl, ?_⟩) ?_ ?_
      rotate_left
      · intro w'
        go_simp
        with_reducible rfl
      rotate_left
      · simp only [Act.put, List.setIfInBounds_toArray, List.set_cons_zero, List.set_cons_succ, i64_w, i32_w]
        rfl
      refine pure_ (i := 18) (N := some 42) (v := ?_) (a' := ?_) #[true, true, true, true, true, true, true, true, true, true, true, true, true, true, true, true, true, true, true, false] rfl rfl (any_of HT_.out (by kernel_rfl)) (fun _ _ _ h => h) (Or.inl ⟨by rfl, ?_⟩) ?_ ?_
      rotate_left
      · intro w'
        go_simp
        with_reducible rfl
      rotate_left
      · simp only [Act.put, List.setIfInBounds_toArray, List.set_cons_zero, List.set_cons_succ, i64_w, i32_w]
        rfl
      refine pure_ (i := 19) (N := some 6) (v := ?_) (a' := ?_) #[true, true, true, true, true, true, true, true, true, true, true, true, true, true, true, true, true, true, true, true] rfl rfl (any_of HT_.out (by kernel_rfl)) (fun _ _ _ h => h) (Or.inl ⟨by rfl, ?_⟩) ?_ ?_
      rotate_left
      · intro w'
        go_simp
        with_reducible rfl
      rotate_left
      · simp only [Act.put, List.setIfInBounds_toArray, List.set_cons_zero, List.set_cons_succ, i64_w, i32_w]
        rfl
      refine done_ (done_of HT_.out (by kernel_rfl)) ?_
      try go_wp2
      go_ret
      exact ⟨by first | rfl, by exact HB.out⟩
    · rw [if_neg c10] at H; exact absurd (Option.some.inj H) (by rw [HRT.out]; decide)
  · replace c7 := Bool.eq_false_iff.mpr c7
    subst c7
    have H1 : (some false) = some r := by rw [if_neg (show ¬ (false = true) by decide)] at H; exact H
    clear H
    have H := H1
    clear H1
    obtain rfl := Option.some.inj H
    go_enter Tryd.func4, Tryd.ntmps4
    try go_wp2_with (first | ((with_reducible refine gate_dst (N := 3) rfl ?_); refine box_event ?hg (N := 3) ?hd (cs := #[.slice A0_0 l0_0.length c0_0, .slice A0_1 l0_1.length c0_1, .slice A0_2 l0_2.length c0_2, .slice A0_3 l0_3.length c0_3, .slice A0_4 l0_4.length c0_4]) (t := 27) ?hr ?_; (case hd => rfl); (case hg => rfl); (case hr => first | (go_simp; done)); intro gb235 hg w76 hbox hb; have n0_ := Aside0.mk (below_step HB.out hb); have n1_ := Aside0.mk (hbox); have n2_ := Aside0.mk ((by rw [hg]; exact (below_size HB.out) : w.heap.size ≤ gb235)); have n3_ := Aside0.mk ((by rw [hg]; exact (below_size HB.out) : w.heap.size ≤ gb235)); clear HB; have HB := n0_; have BK235 := n1_; have GW235 := n2_; have GE235 := n3_; clear n0_ n1_ n2_ n3_; clear hb hbox hg) | ((with_reducible refine gate_dst (N := 4) rfl ?_); refine box_event ?hg (N := 4) ?hd (cs := #[.int .i64 a1_0, .int .i64 a1_1, .slice A1_2 l1_2.length c1_2, .slice A1_3 l1_3.length c1_3]) (t := 30) ?hr ?_; (case hd => rfl); (case hg => rfl); (case hr => first | (go_simp; done)); intro gb236 hg w77 hbox hb; have n0_ := Aside0.mk (blk_below BK235.out hb); have n1_ := Aside0.mk (below_step HB.out hb); have n2_ := Aside0.mk (hbox); have n3_ := Aside0.mk ((by rw [hg]; exact (below_size HB.out) : w.heap.size ≤ gb236)); have n4_ := Aside0.mk ((by rw [hg]; exact (below_size HB.out) : w.heap.size ≤ gb236)); have n5_ := Aside0.mk ((by rw [hg]; exact Nat.ne_of_lt (blk_lt BK235.out) : gb235 ≠ gb236)); have n6_ := Aside0.mk ((by rw [hg]; exact Nat.ne_of_gt (blk_lt BK235.out) : gb236 ≠ gb235)); clear BK235; clear HB; have BK235 := n0_; have HB := n1_; have BK236 := n2_; have GW236 := n3_; have GE236 := n4_; have NB235_236 := n5_; have NB236_235 := n6_; clear n0_ n1_ n2_ n3_ n4_ n5_ n6_; clear hb hbox hg) | ((with_reducible refine gate_callee (f := 13) rfl ?_); refine goesL_ (some 11) rfl rfl Tryd.func13 (by kernel_rfl) rfl #[] rfl (by (try simp only [List.map_toArray, List.map_cons, List.map_nil]); first | done) ?_; (with_reducible refine (proofmarklaw30_head.calls k false _ (by first | (refine tab_below HG.out ?_; repeat (first | (with_reducible first | exact HB.out)))) A4.out).mono ?_); rintro e w78 ⟨rfl, hb⟩; refine ⟨_, rfl, ?_⟩; have n0_ := Aside0.mk (blk_below BK235.out hb); have n1_ := Aside0.mk (blk_below BK236.out hb); have n2_ := Aside0.mk (below_step HB.out hb); clear BK235; clear BK236; clear HB; have BK235 := n0_; have BK236 := n1_; have HB := n2_; clear n0_ n1_ n2_; (try clear hb); (try clear hb2); (try clear hk); (try clear hi); have hnb79 := NB235_236.out; have hnc79 := NB236_235.out; have hcz80_0 : w78.cell? ⟨gb235, 0, none⟩ = some (.slice A0_0 l0_0.length c0_0) := (blk_cell BK235.out 0).trans rfl; have hcz80_1 : w78.cell? ⟨gb235, 1, none⟩ = some (.slice A0_1 l0_1.length c0_1) := (blk_cell BK235.out 1).trans rfl; have hcz80_2 : w78.cell? ⟨gb235, 2, none⟩ = some (.slice A0_2 l0_2.length c0_2) := (blk_cell BK235.out 2).trans rfl; have hcz80_3 : w78.cell? ⟨gb235, 3, none⟩ = some (.slice A0_3 l0_3.length c0_3) := (blk_cell BK235.out 3).trans rfl; have hcz80_4 : w78.cell? ⟨gb235, 4, none⟩ = some (.slice A0_4 l0_4.length c0_4) := (blk_cell BK235.out 4).trans rfl; have hfz80_0 := blk_frozen BK235.out 0; have hfz80_1 := blk_frozen BK235.out 1; have hfz80_2 := blk_frozen BK235.out 2; have hfz80_3 := blk_frozen BK235.out 3; have hfz80_4 := blk_frozen BK235.out 4) | ((with_reducible refine gate_callee (f := 14) rfl ?_); refine goesL_ (some 13) rfl rfl Tryd.func14 (by kernel_rfl) rfl #[.agg #[.slice A0_0 l0_0.length c0_0, .slice A0_1 l0_1.length c0_1, .slice A0_2 l0_2.length c0_2, .slice A0_3 l0_3.length c0_3, .slice A0_4 l0_4.length c0_4]] rfl (by (try simp only [List.map_toArray, List.map_cons, List.map_nil]); first | rfl) ?_; (with_reducible refine (proofmarkref30_Few.calls k _ _ l0_0 _ _ l0_1 _ _ l0_2 _ _ l0_3 _ _ l0_4 t238 t241 t244 t247 t250 _ ?side1 ?side2 ?side3 ?side4 ?side5 ?side6 ?side7 ?side8 ?side9 ?side10 A5.out).mono ?_); (case side1 => repeat (first | exact (Kd.C_below HR0_0.out HB.out))); (case side2 => exact HC0_0.out); (case side3 => repeat (first | exact (Kd.C_below HR0_1.out HB.out))); (case side4 => exact HC0_1.out); (case side5 => repeat (first | exact (Kd.C_below HR0_2.out HB.out))); (case side6 => exact HC0_2.out); (case side7 => repeat (first | exact (Kd.C_below HR0_3.out HB.out))); (case side8 => exact HC0_3.out); (case side9 => repeat (first | exact (Kd.C_below HR0_4.out HB.out))); (case side10 => exact HC0_4.out); rintro e w81 ⟨v239, v242, v245, v248, v251, rfl, ho0, ho1, ho2, ho3, ho4, hb⟩; refine ⟨_, rfl, ?_⟩; have n0_ := Aside0.mk (Kd.R_lower ho0 (below_size HB.out)); have n1_ := Aside0.mk (Kd.R_lower ho1 (below_size HB.out)); have n2_ := Aside0.mk (Kd.R_lower ho2 (below_size HB.out)); have n3_ := Aside0.mk (Kd.R_lower ho3 (below_size HB.out)); have n4_ := Aside0.mk (Kd.R_lower ho4 (below_size HB.out)); have n5_ := Aside0.mk (blk_below BK235.out hb); have n6_ := Aside0.mk (blk_below BK236.out hb); have n7_ := Aside0.mk (below_step HB.out hb); clear BK235; clear BK236; clear HB; have HO240 := n0_; have HO243 := n1_; have HO246 := n2_; have HO249 := n3_; have HO252 := n4_; have BK235 := n5_; have BK236 := n6_; have HB := n7_; clear n0_ n1_ n2_ n3_ n4_ n5_ n6_ n7_; (try clear hb); (try clear hb2); (try clear hk); (try clear hi); (try clear ho0); (try clear ho1); (try clear ho2); (try clear ho3); (try clear ho4)) | ((with_reducible refine gate_dst (N := 8) rfl ?_); refine box_event ?hg (N := 8) ?hd (cs := #[.slice none 0 0, .slice none 0 0, .slice none 0 0, .slice none 0 0, .slice none 0 0]) (t := 27) ?hr ?_; (case hd => rfl); (case hg => rfl); (case hr => first | (go_simp; done)); intro gb253 hg w82 hbox hb; have n0_ := Aside0.mk (Kd.R_below HO240.out hb); have n1_ := Aside0.mk (Kd.R_below HO243.out hb); have n2_ := Aside0.mk (Kd.R_below HO246.out hb); have n3_ := Aside0.mk (Kd.R_below HO249.out hb); have n4_ := Aside0.mk (Kd.R_below HO252.out hb); have n5_ := Aside0.mk (blk_below BK235.out hb); have n6_ := Aside0.mk (blk_below BK236.out hb); have n7_ := Aside0.mk (below_step HB.out hb); have n8_ := Aside0.mk (hbox); have n9_ := Aside0.mk ((by rw [hg]; exact (below_size HB.out) : w.heap.size ≤ gb253)); have n10_ := Aside0.mk ((by rw [hg]; exact (below_size HB.out) : w.heap.size ≤ gb253)); have n11_ := Aside0.mk ((by rw [hg]; exact Nat.ne_of_lt (blk_lt BK235.out) : gb235 ≠ gb253)); have n12_ := Aside0.mk ((by rw [hg]; exact Nat.ne_of_gt (blk_lt BK235.out) : gb253 ≠ gb235)); have n13_ := Aside0.mk ((by rw [hg]; exact Nat.ne_of_lt (blk_lt BK236.out) : gb236 ≠ gb253)); have n14_ := Aside0.mk ((by rw [hg]; exact Nat.ne_of_gt (blk_lt BK236.out) : gb253 ≠ gb236)); clear HO240; clear HO243; clear HO246; clear HO249; clear HO252; clear BK235; clear BK236; clear HB; have HO240 := n0_; have HO243 := n1_; have HO246 := n2_; have HO249 := n3_; have HO252 := n4_; have BK235 := n5_; have BK236 := n6_; have HB := n7_; have BK253 := n8_; have GW253 := n9_; have GE253 := n10_; have NB235_253 := n11_; have NB253_235 := n12_; have NB236_253 := n13_; have NB253_236 := n14_; clear n0_ n1_ n2_ n3_ n4_ n5_ n6_ n7_ n8_ n9_ n10_ n11_ n12_ n13_ n14_; clear hb hbox hg; obtain ⟨Ao83, co83, eo83⟩ := Kd.R_slice HO240.out; subst eo83; have hnb84 := NB253_235.out; have hnc84 := NB235_253.out; have hnb85 := NB253_236.out; have hnc85 := NB236_253.out; have hcz86_0 : w82.cell? ⟨gb253, 0, none⟩ = some (.slice none 0 0) := (blk_cell BK253.out 0).trans rfl; have hcz86_1 : w82.cell? ⟨gb253, 1, none⟩ = some (.slice none 0 0) := (blk_cell BK253.out 1).trans rfl; have hcz86_2 : w82.cell? ⟨gb253, 2, none⟩ = some (.slice none 0 0) := (blk_cell BK253.out 2).trans rfl; have hcz86_3 : w82.cell? ⟨gb253, 3, none⟩ = some (.slice none 0 0) := (blk_cell BK253.out 3).trans rfl; have hcz86_4 : w82.cell? ⟨gb253, 4, none⟩ = some (.slice none 0 0) := (blk_cell BK253.out 4).trans rfl; have hfz86_0 := blk_frozen BK253.out 0; have hfz86_1 := blk_frozen BK253.out 1; have hfz86_2 := blk_frozen BK253.out 2; have hfz86_3 := blk_frozen BK253.out 3; have hfz86_4 := blk_frozen BK253.out 4; obtain ⟨Ao87, co87, eo87⟩ := Kd.R_slice HO243.out; subst eo87; obtain ⟨Ao88, co88, eo88⟩ := Kd.R_slice HO246.out; subst eo88; obtain ⟨Ao89, co89, eo89⟩ := Kd.R_slice HO249.out; subst eo89; obtain ⟨Ao90, co90, eo90⟩ := Kd.R_slice HO252.out; subst eo90; have hcz91_0 : w82.cell? ⟨gb236, 0, none⟩ = some (.int .i64 a1_0) := (blk_cell BK236.out 0).trans rfl; have hcz91_1 : w82.cell? ⟨gb236, 1, none⟩ = some (.int .i64 a1_1) := (blk_cell BK236.out 1).trans rfl; have hcz91_2 : w82.cell? ⟨gb236, 2, none⟩ = some (.slice A1_2 l1_2.length c1_2) := (blk_cell BK236.out 2).trans rfl; have hcz91_3 : w82.cell? ⟨gb236, 3, none⟩ = some (.slice A1_3 l1_3.length c1_3) := (blk_cell BK236.out 3).trans rfl; have hfz91_0 := blk_frozen BK236.out 0; have hfz91_1 := blk_frozen BK236.out 1; have hfz91_2 := blk_frozen BK236.out 2; have hfz91_3 := blk_frozen BK236.out 3) | ((with_reducible refine gate_callee (f := 15) rfl ?_); refine goesL_ (some 15) rfl rfl Tryd.func15 (by kernel_rfl) rfl #[.agg #[.int .i64 a1_0, .int .i64 a1_1, .slice A1_2 l1_2.length c1_2, .slice A1_3 l1_3.length c1_3]] rfl (by (try simp only [List.map_toArray, List.map_cons, List.map_nil]); first | rfl) ?_; (with_reducible refine (proofmarkref30_Fit.calls k a1_0 a1_1 _ _ l1_2 _ _ l1_3 t254 t255 t256 t259 _ ?side1 ?side2 ?side3 ?side4 A6.out).mono ?_); (case side1 => exact Kd.C_below HR1_2.out (by repeat (first | (with_reducible first | exact HB.out | refine below_set ?_ GE253.out)))); (case side2 => exact HC1_2.out); (case side3 => exact Kd.C_below HR1_3.out (by repeat (first | (with_reducible first | exact HB.out | refine below_set ?_ GE253.out)))); (case side4 => exact HC1_3.out); rintro e w92 ⟨v257, v260, rfl, ho0, ho1, hb⟩; refine ⟨_, rfl, ?_⟩; have n0_ := Aside0.mk (Kd.R_below (by exact (Kd.R_mono (Kd.R_far (p := ⟨gb253, 4, none⟩) (Kd.R_far (p := ⟨gb253, 3, none⟩) (Kd.R_far (p := ⟨gb253, 2, none⟩) (Kd.R_far (p := ⟨gb253, 1, none⟩) (Kd.R_far (p := ⟨gb253, 0, none⟩) (Kd.R_types HO240.out BK253.out (by decide)) (fun _ hk => hk.2) (.slice Ao83 t238.length co83)) (fun _ hk => hk.2) (.slice Ao87 t241.length co87)) (fun _ hk => hk.2) (.slice Ao88 t244.length co88)) (fun _ hk => hk.2) (.slice Ao89 t247.length co89)) (fun _ hk => hk.2) (.slice Ao90 t250.length co90)) (fun _ h_ => h_.1))) hb); have n1_ := Aside0.mk (Kd.R_below (by exact (Kd.R_mono (Kd.R_far (p := ⟨gb253, 4, none⟩) (Kd.R_far (p := ⟨gb253, 3, none⟩) (Kd.R_far (p := ⟨gb253, 2, none⟩) (Kd.R_far (p := ⟨gb253, 1, none⟩) (Kd.R_far (p := ⟨gb253, 0, none⟩) (Kd.R_types HO243.out BK253.out (by decide)) (fun _ hk => hk.2) (.slice Ao83 t238.length co83)) (fun _ hk => hk.2) (.slice Ao87 t241.length co87)) (fun _ hk => hk.2) (.slice Ao88 t244.length co88)) (fun _ hk => hk.2) (.slice Ao89 t247.length co89)) (fun _ hk => hk.2) (.slice Ao90 t250.length co90)) (fun _ h_ => h_.1))) hb); have n2_ := Aside0.mk (Kd.R_below (by exact (Kd.R_mono (Kd.R_far (p := ⟨gb253, 4, none⟩) (Kd.R_far (p := ⟨gb253, 3, none⟩) (Kd.R_far (p := ⟨gb253, 2, none⟩) (Kd.R_far (p := ⟨gb253, 1, none⟩) (Kd.R_far (p := ⟨gb253, 0, none⟩) (Kd.R_types HO246.out BK253.out (by decide)) (fun _ hk => hk.2) (.slice Ao83 t238.length co83)) (fun _ hk => hk.2) (.slice Ao87 t241.length co87)) (fun _ hk => hk.2) (.slice Ao88 t244.length co88)) (fun _ hk => hk.2) (.slice Ao89 t247.length co89)) (fun _ hk => hk.2) (.slice Ao90 t250.length co90)) (fun _ h_ => h_.1))) hb); have n3_ := Aside0.mk (Kd.R_below (by exact (Kd.R_mono (Kd.R_far (p := ⟨gb253, 4, none⟩) (Kd.R_far (p := ⟨gb253, 3, none⟩) (Kd.R_far (p := ⟨gb253, 2, none⟩) (Kd.R_far (p := ⟨gb253, 1, none⟩) (Kd.R_far (p := ⟨gb253, 0, none⟩) (Kd.R_types HO249.out BK253.out (by decide)) (fun _ hk => hk.2) (.slice Ao83 t238.length co83)) (fun _ hk => hk.2) (.slice Ao87 t241.length co87)) (fun _ hk => hk.2) (.slice Ao88 t244.length co88)) (fun _ hk => hk.2) (.slice Ao89 t247.length co89)) (fun _ hk => hk.2) (.slice Ao90 t250.length co90)) (fun _ h_ => h_.1))) hb); have n4_ := Aside0.mk (Kd.R_below (by exact (Kd.R_mono (Kd.R_far (p := ⟨gb253, 4, none⟩) (Kd.R_far (p := ⟨gb253, 3, none⟩) (Kd.R_far (p := ⟨gb253, 2, none⟩) (Kd.R_far (p := ⟨gb253, 1, none⟩) (Kd.R_far (p := ⟨gb253, 0, none⟩) (Kd.R_types HO252.out BK253.out (by decide)) (fun _ hk => hk.2) (.slice Ao83 t238.length co83)) (fun _ hk => hk.2) (.slice Ao87 t241.length co87)) (fun _ hk => hk.2) (.slice Ao88 t244.length co88)) (fun _ hk => hk.2) (.slice Ao89 t247.length co89)) (fun _ hk => hk.2) (.slice Ao90 t250.length co90)) (fun _ h_ => h_.1))) hb); have n5_ := Aside0.mk (Kd.S_lower ho0 (below_size (by repeat (first | (with_reducible first | exact HB.out | refine below_set ?_ GE253.out))))); have n6_ := Aside0.mk (Kd.S_lower ho1 (below_size (by repeat (first | (with_reducible first | exact HB.out | refine below_set ?_ GE253.out))))); have n7_ := Aside0.mk (blk_below (g := gb235) (o := .cells #[.slice A0_0 l0_0.length c0_0, .slice A0_1 l0_1.length c0_1, .slice A0_2 l0_2.length c0_2, .slice A0_3 l0_3.length c0_3, .slice A0_4 l0_4.length c0_4] 27 (0, 0)) (by refine blk_far ?_ NB235_253.out _; refine blk_far ?_ NB235_253.out _; refine blk_far ?_ NB235_253.out _; refine blk_far ?_ NB235_253.out _; refine blk_far ?_ NB235_253.out _; exact BK235.out) hb); have n8_ := Aside0.mk (blk_below (g := gb236) (o := .cells #[.int .i64 a1_0, .int .i64 a1_1, .slice A1_2 l1_2.length c1_2, .slice A1_3 l1_3.length c1_3] 30 (0, 0)) (by refine blk_far ?_ NB236_253.out _; refine blk_far ?_ NB236_253.out _; refine blk_far ?_ NB236_253.out _; refine blk_far ?_ NB236_253.out _; refine blk_far ?_ NB236_253.out _; exact BK236.out) hb); have n9_ := Aside0.mk (blk_below (g := gb253) (o := .cells #[.slice Ao83 t238.length co83, .slice Ao87 t241.length co87, .slice Ao88 t244.length co88, .slice Ao89 t247.length co89, .slice Ao90 t250.length co90] 27 (0, 0)) (by refine blk_put (cs := #[.slice Ao83 t238.length co83, .slice Ao87 t241.length co87, .slice Ao88 t244.length co88, .slice Ao89 t247.length co89, .slice none 0 0]) ?_ 4 _ rfl; refine blk_put (cs := #[.slice Ao83 t238.length co83, .slice Ao87 t241.length co87, .slice Ao88 t244.length co88, .slice none 0 0, .slice none 0 0]) ?_ 3 _ rfl; refine blk_put (cs := #[.slice Ao83 t238.length co83, .slice Ao87 t241.length co87, .slice none 0 0, .slice none 0 0, .slice none 0 0]) ?_ 2 _ rfl; refine blk_put (cs := #[.slice Ao83 t238.length co83, .slice none 0 0, .slice none 0 0, .slice none 0 0, .slice none 0 0]) ?_ 1 _ rfl; refine blk_put (cs := #[.slice none 0 0, .slice none 0 0, .slice none 0 0, .slice none 0 0, .slice none 0 0]) ?_ 0 _ rfl; exact BK253.out) hb); have n10_ := Aside0.mk (below_step (by repeat (first | (with_reducible first | exact HB.out | refine below_set ?_ GE253.out))) hb); clear HO240; clear HO243; clear HO246; clear HO249; clear HO252; clear BK235; clear BK236; clear BK253; clear HB; have HO240 := n0_; have HO243 := n1_; have HO246 := n2_; have HO249 := n3_; have HO252 := n4_; have HO258 := n5_; have HO261 := n6_; have BK235 := n7_; have BK236 := n8_; have BK253 := n9_; have HB := n10_; clear n0_ n1_ n2_ n3_ n4_ n5_ n6_ n7_ n8_ n9_ n10_; (try clear hb); (try clear hb2); (try clear hk); (try clear hi); (try clear ho0); (try clear ho1)) | ((with_reducible refine gate_dst (N := 9) rfl ?_); refine box_event ?hg (N := 9) ?hd (cs := #[.int .i64 0, .int .i64 0, .slice none 0 0, .slice none 0 0]) (t := 30) ?hr ?_; (case hd => rfl); (case hg => rfl); (case hr => first | (go_simp; done)); intro gb262 hg w93 hbox hb; have n0_ := Aside0.mk (Kd.R_below HO240.out hb); have n1_ := Aside0.mk (Kd.R_below HO243.out hb); have n2_ := Aside0.mk (Kd.R_below HO246.out hb); have n3_ := Aside0.mk (Kd.R_below HO249.out hb); have n4_ := Aside0.mk (Kd.R_below HO252.out hb); have n5_ := Aside0.mk (Kd.S_below HO258.out hb); have n6_ := Aside0.mk (Kd.S_below HO261.out hb); have n7_ := Aside0.mk (blk_below BK235.out hb); have n8_ := Aside0.mk (blk_below BK236.out hb); have n9_ := Aside0.mk (blk_below BK253.out hb); have n10_ := Aside0.mk (below_step HB.out hb); have n11_ := Aside0.mk (hbox); have n12_ := Aside0.mk ((by rw [hg]; exact (below_size HB.out) : w.heap.size ≤ gb262)); have n13_ := Aside0.mk ((by rw [hg]; exact (below_size HB.out) : w.heap.size ≤ gb262)); have n14_ := Aside0.mk ((by rw [hg]; exact Nat.ne_of_lt (blk_lt BK235.out) : gb235 ≠ gb262)); have n15_ := Aside0.mk ((by rw [hg]; exact Nat.ne_of_gt (blk_lt BK235.out) : gb262 ≠ gb235)); have n16_ := Aside0.mk ((by rw [hg]; exact Nat.ne_of_lt (blk_lt BK236.out) : gb236 ≠ gb262)); have n17_ := Aside0.mk ((by rw [hg]; exact Nat.ne_of_gt (blk_lt BK236.out) : gb262 ≠ gb236)); have n18_ := Aside0.mk ((by rw [hg]; exact Nat.ne_of_lt (blk_lt BK253.out) : gb253 ≠ gb262)); have n19_ := Aside0.mk ((by rw [hg]; exact Nat.ne_of_gt (blk_lt BK253.out) : gb262 ≠ gb253)); clear HO240; clear HO243; clear HO246; clear HO249; clear HO252; clear HO258; clear HO261; clear BK235; clear BK236; clear BK253; clear HB; have HO240 := n0_; have HO243 := n1_; have HO246 := n2_; have HO249 := n3_; have HO252 := n4_; have HO258 := n5_; have HO261 := n6_; have BK235 := n7_; have BK236 := n8_; have BK253 := n9_; have HB := n10_; have BK262 := n11_; have GW262 := n12_; have GE262 := n13_; have NB235_262 := n14_; have NB262_235 := n15_; have NB236_262 := n16_; have NB262_236 := n17_; have NB253_262 := n18_; have NB262_253 := n19_; clear n0_ n1_ n2_ n3_ n4_ n5_ n6_ n7_ n8_ n9_ n10_ n11_ n12_ n13_ n14_ n15_ n16_ n17_ n18_ n19_; clear hb hbox hg; have hnb94 := NB262_235.out; have hnc94 := NB235_262.out; have hnb95 := NB262_236.out; have hnc95 := NB236_262.out; have hnb96 := NB262_253.out; have hnc96 := NB253_262.out; have hcz97_0 : w93.cell? ⟨gb262, 0, none⟩ = some (.int .i64 0) := (blk_cell BK262.out 0).trans rfl; have hcz97_1 : w93.cell? ⟨gb262, 1, none⟩ = some (.int .i64 0) := (blk_cell BK262.out 1).trans rfl; have hcz97_2 : w93.cell? ⟨gb262, 2, none⟩ = some (.slice none 0 0) := (blk_cell BK262.out 2).trans rfl; have hcz97_3 : w93.cell? ⟨gb262, 3, none⟩ = some (.slice none 0 0) := (blk_cell BK262.out 3).trans rfl; have hfz97_0 := blk_frozen BK262.out 0; have hfz97_1 := blk_frozen BK262.out 1; have hfz97_2 := blk_frozen BK262.out 2; have hfz97_3 := blk_frozen BK262.out 3; obtain ⟨Ao98, co98, eo98⟩ := Kd.S_slice HO258.out; subst eo98; obtain ⟨Ao99, co99, eo99⟩ := Kd.S_slice HO261.out; subst eo99; have hcz100_0 : w93.cell? ⟨gb236, 0, none⟩ = some (.int .i64 a1_0) := (blk_cell BK236.out 0).trans rfl; have hcz100_1 : w93.cell? ⟨gb236, 1, none⟩ = some (.int .i64 a1_1) := (blk_cell BK236.out 1).trans rfl; have hcz100_2 : w93.cell? ⟨gb236, 2, none⟩ = some (.slice A1_2 l1_2.length c1_2) := (blk_cell BK236.out 2).trans rfl; have hcz100_3 : w93.cell? ⟨gb236, 3, none⟩ = some (.slice A1_3 l1_3.length c1_3) := (blk_cell BK236.out 3).trans rfl; have hfz100_0 := blk_frozen BK236.out 0; have hfz100_1 := blk_frozen BK236.out 1; have hfz100_2 := blk_frozen BK236.out 2; have hfz100_3 := blk_frozen BK236.out 3) | ((with_reducible refine gate_dst (N := 23) rfl ?_); refine Kd.R_lit k40 _ 40 ?hg (N := 23) ?hd (xs := ([(⟨a2, a2, a1_1, a1_0⟩ : S40)] : List (S40))) (inner := [.int .i64 a2, .int .i64 a2, .int .i64 a1_1, .int .i64 a1_0]) (ok := fun _ => True) (okp := fun _ => True) ?hr ?hp (fun _ hk => hk) trivial (Below.refl _ _) (Nat.le_refl _) (by simp) ?_; (case hd => rfl); (case hg => rfl); (case hr => first | (go_simp; done)); (case hp => exact (Reps.c4 (show Kd.M k40 _ _ _ (⟨a2, a2, a1_1, a1_0⟩ : S40) [.int .i64 a2, .int .i64 a2, .int .i64 a1_1, .int .i64 a1_0] from (k40_mkM _ _ _ (⟨a2, a2, a1_1, a1_0⟩ : S40) )) (Reps.none _ _))); intro v264 w101 ho102 hb hg_ hnew_; clear hg_ hnew_; (first | rw [← Ny263.out] at ho102); have n0_ := Aside0.mk (Kd.R_below (by exact (Kd.R_mono (Kd.R_far (p := ⟨gb262, 3, none⟩) (Kd.R_far (p := ⟨gb262, 2, none⟩) (Kd.R_far (p := ⟨gb262, 1, none⟩) (Kd.R_far (p := ⟨gb262, 0, none⟩) (Kd.R_types HO240.out BK262.out (by decide)) (fun _ hk => hk.2) (.int .i64 t254)) (fun _ hk => hk.2) (.int .i64 t255)) (fun _ hk => hk.2) (.slice Ao98 t256.length co98)) (fun _ hk => hk.2) (.slice Ao99 t259.length co99)) (fun _ h_ => h_.1))) hb); have n1_ := Aside0.mk (Kd.R_below (by exact (Kd.R_mono (Kd.R_far (p := ⟨gb262, 3, none⟩) (Kd.R_far (p := ⟨gb262, 2, none⟩) (Kd.R_far (p := ⟨gb262, 1, none⟩) (Kd.R_far (p := ⟨gb262, 0, none⟩) (Kd.R_types HO243.out BK262.out (by decide)) (fun _ hk => hk.2) (.int .i64 t254)) (fun _ hk => hk.2) (.int .i64 t255)) (fun _ hk => hk.2) (.slice Ao98 t256.length co98)) (fun _ hk => hk.2) (.slice Ao99 t259.length co99)) (fun _ h_ => h_.1))) hb); have n2_ := Aside0.mk (Kd.R_below (by exact (Kd.R_mono (Kd.R_far (p := ⟨gb262, 3, none⟩) (Kd.R_far (p := ⟨gb262, 2, none⟩) (Kd.R_far (p := ⟨gb262, 1, none⟩) (Kd.R_far (p := ⟨gb262, 0, none⟩) (Kd.R_types HO246.out BK262.out (by decide)) (fun _ hk => hk.2) (.int .i64 t254)) (fun _ hk => hk.2) (.int .i64 t255)) (fun _ hk => hk.2) (.slice Ao98 t256.length co98)) (fun _ hk => hk.2) (.slice Ao99 t259.length co99)) (fun _ h_ => h_.1))) hb); have n3_ := Aside0.mk (Kd.R_below (by exact (Kd.R_mono (Kd.R_far (p := ⟨gb262, 3, none⟩) (Kd.R_far (p := ⟨gb262, 2, none⟩) (Kd.R_far (p := ⟨gb262, 1, none⟩) (Kd.R_far (p := ⟨gb262, 0, none⟩) (Kd.R_types HO249.out BK262.out (by decide)) (fun _ hk => hk.2) (.int .i64 t254)) (fun _ hk => hk.2) (.int .i64 t255)) (fun _ hk => hk.2) (.slice Ao98 t256.length co98)) (fun _ hk => hk.2) (.slice Ao99 t259.length co99)) (fun _ h_ => h_.1))) hb); have n4_ := Aside0.mk (Kd.R_below (by exact (Kd.R_mono (Kd.R_far (p := ⟨gb262, 3, none⟩) (Kd.R_far (p := ⟨gb262, 2, none⟩) (Kd.R_far (p := ⟨gb262, 1, none⟩) (Kd.R_far (p := ⟨gb262, 0, none⟩) (Kd.R_types HO252.out BK262.out (by decide)) (fun _ hk => hk.2) (.int .i64 t254)) (fun _ hk => hk.2) (.int .i64 t255)) (fun _ hk => hk.2) (.slice Ao98 t256.length co98)) (fun _ hk => hk.2) (.slice Ao99 t259.length co99)) (fun _ h_ => h_.1))) hb); have n5_ := Aside0.mk (Kd.S_below (by exact (Kd.S_mono (Kd.S_far (p := ⟨gb262, 3, none⟩) (Kd.S_far (p := ⟨gb262, 2, none⟩) (Kd.S_far (p := ⟨gb262, 1, none⟩) (Kd.S_far (p := ⟨gb262, 0, none⟩) (Kd.S_types HO258.out BK262.out (by decide)) (fun _ hk => hk.2) (.int .i64 t254)) (fun _ hk => hk.2) (.int .i64 t255)) (fun _ hk => hk.2) (.slice Ao98 t256.length co98)) (fun _ hk => hk.2) (.slice Ao99 t259.length co99)) (fun _ h_ => h_.1))) hb); have n6_ := Aside0.mk (Kd.S_below (by exact (Kd.S_mono (Kd.S_far (p := ⟨gb262, 3, none⟩) (Kd.S_far (p := ⟨gb262, 2, none⟩) (Kd.S_far (p := ⟨gb262, 1, none⟩) (Kd.S_far (p := ⟨gb262, 0, none⟩) (Kd.S_types HO261.out BK262.out (by decide)) (fun _ hk => hk.2) (.int .i64 t254)) (fun _ hk => hk.2) (.int .i64 t255)) (fun _ hk => hk.2) (.slice Ao98 t256.length co98)) (fun _ hk => hk.2) (.slice Ao99 t259.length co99)) (fun _ h_ => h_.1))) hb); have n7_ := Aside0.mk (Kd.R_lower ho102 (below_size (by repeat (first | (with_reducible first | exact HB.out | refine below_set ?_ GE262.out))))); have n8_ := Aside0.mk (blk_below (g := gb235) (o := .cells #[.slice A0_0 l0_0.length c0_0, .slice A0_1 l0_1.length c0_1, .slice A0_2 l0_2.length c0_2, .slice A0_3 l0_3.length c0_3, .slice A0_4 l0_4.length c0_4] 27 (0, 0)) (by refine blk_far ?_ NB235_262.out _; refine blk_far ?_ NB235_262.out _; refine blk_far ?_ NB235_262.out _; refine blk_far ?_ NB235_262.out _; exact BK235.out) hb); have n9_ := Aside0.mk (blk_below (g := gb236) (o := .cells #[.int .i64 a1_0, .int .i64 a1_1, .slice A1_2 l1_2.length c1_2, .slice A1_3 l1_3.length c1_3] 30 (0, 0)) (by refine blk_far ?_ NB236_262.out _; refine blk_far ?_ NB236_262.out _; refine blk_far ?_ NB236_262.out _; refine blk_far ?_ NB236_262.out _; exact BK236.out) hb); have n10_ := Aside0.mk (blk_below (g := gb253) (o := .cells #[.slice Ao83 t238.length co83, .slice Ao87 t241.length co87, .slice Ao88 t244.length co88, .slice Ao89 t247.length co89, .slice Ao90 t250.length co90] 27 (0, 0)) (by refine blk_far ?_ NB253_262.out _; refine blk_far ?_ NB253_262.out _; refine blk_far ?_ NB253_262.out _; refine blk_far ?_ NB253_262.out _; exact BK253.out) hb); have n11_ := Aside0.mk (blk_below (g := gb262) (o := .cells #[.int .i64 t254, .int .i64 t255, .slice Ao98 t256.length co98, .slice Ao99 t259.length co99] 30 (0, 0)) (by refine blk_put (cs := #[.int .i64 t254, .int .i64 t255, .slice Ao98 t256.length co98, .slice none 0 0]) ?_ 3 _ rfl; refine blk_put (cs := #[.int .i64 t254, .int .i64 t255, .slice none 0 0, .slice none 0 0]) ?_ 2 _ rfl; refine blk_put (cs := #[.int .i64 t254, .int .i64 0, .slice none 0 0, .slice none 0 0]) ?_ 1 _ rfl; refine blk_put (cs := #[.int .i64 0, .int .i64 0, .slice none 0 0, .slice none 0 0]) ?_ 0 _ rfl; exact BK262.out) hb); have n12_ := Aside0.mk (below_step (by repeat (first | (with_reducible first | exact HB.out | refine below_set ?_ GE262.out))) hb); clear HO240; clear HO243; clear HO246; clear HO249; clear HO252; clear HO258; clear HO261; clear BK235; clear BK236; clear BK253; clear BK262; clear HB; have HO240 := n0_; have HO243 := n1_; have HO246 := n2_; have HO249 := n3_; have HO252 := n4_; have HO258 := n5_; have HO261 := n6_; have HO265 := n7_; have BK235 := n8_; have BK236 := n9_; have BK253 := n10_; have BK262 := n11_; have HB := n12_; clear n0_ n1_ n2_ n3_ n4_ n5_ n6_ n7_ n8_ n9_ n10_ n11_ n12_; clear hb ho102))
    have n0_ := Aside0.mk (Kd.R_drew HO240.out)
    have n1_ := Aside0.mk (Kd.R_drew HO243.out)
    have n2_ := Aside0.mk (Kd.R_drew HO246.out)
    have n3_ := Aside0.mk (Kd.R_drew HO249.out)
    have n4_ := Aside0.mk (Kd.R_drew HO252.out)
    have n5_ := Aside0.mk (Kd.S_drew HO258.out)
    have n6_ := Aside0.mk (Kd.S_drew HO261.out)
    have n7_ := Aside0.mk (Kd.R_drew HO265.out)
    have n8_ := Aside0.mk (blk_drew BK235.out)
    have n9_ := Aside0.mk (blk_drew BK236.out)
    have n10_ := Aside0.mk (blk_drew BK253.out)
    have n11_ := Aside0.mk (blk_drew BK262.out)
    have n12_ := Aside0.mk (below_drew1 HB.out)
    clear HO240
    clear HO243
    clear HO246
    clear HO249
    clear HO252
    clear HO258
    clear HO261
    clear HO265
    clear BK235
    clear BK236
    clear BK253
    clear BK262
    clear HB
    have HO240 := n0_
    have HO243 := n1_
    have HO246 := n2_
    have HO249 := n3_
    have HO252 := n4_
    have HO258 := n5_
    have HO261 := n6_
    have HO265 := n7_
    have BK235 := n8_
    have BK236 := n9_
    have BK253 := n10_
    have BK262 := n11_
    have HB := n12_
    clear n0_ n1_ n2_ n3_ n4_ n5_ n6_ n7_ n8_ n9_ n10_ n11_ n12_
    refine start_ (n := 20) (S := fun w' => True) (ds := []) #[false, false, false, false, false, false, false, false, false, false, false, false, false, false, false, false, false, false, false, false] (by kernel_rfl) rfl rfl trivial (fun hHeld => ?_); refine with_tabW proofmarklaw30_ReportOdd.tab5 proofmarklaw30_ReportOdd.bits5 (fun HT_ HW_ => ?_)
    generalize w101.drew = w103 at HO240 HO243 HO246 HO249 HO252 HO258 HO261 HO265 BK235 BK236 BK253 BK262 HB hHeld ⊢
    refine pure_ (i := 0) (N := some 24) (v := ?_) (a' := ?_) #[true, false, false, false, false, false, false, false, false, false, false, false, false, false, false, false, false, false, false, false] rfl rfl (any_of HT_.out (by kernel_rfl)) (fun _ _ _ h => h) (Or.inl ⟨by rfl, ?_⟩) ?_ ?_
    rotate_left
    · intro w'
      go_simp
      with_reducible rfl
    rotate_left
    · simp only [Act.put, List.setIfInBounds_toArray, List.set_cons_zero, List.set_cons_succ, i64_w, i32_w]
      rfl
    refine pure_ (i := 1) (N := some 25) (v := ?_) (a' := ?_) #[true, true, false, false, false, false, false, false, false, false, false, false, false, false, false, false, false, false, false, false] rfl rfl (any_of HT_.out (by kernel_rfl)) (fun _ _ _ h => h) (Or.inl ⟨by rfl, ?_⟩) ?_ ?_
    rotate_left
    · intro w'
      go_simp
      with_reducible rfl
    rotate_left
    · simp only [Act.put, List.setIfInBounds_toArray, List.set_cons_zero, List.set_cons_succ, i64_w, i32_w]
      rfl
    refine pure_ (i := 2) (N := some 26) (v := undef) (a' := ?_) #[true, true, true, false, false, false, false, false, false, false, false, false, false, false, false, false, false, false, false, false] rfl rfl (any_of HT_.out (by kernel_rfl)) (fun _ _ _ h => h) (Or.inr ⟨by rfl, rfl⟩) ?_ ?_
    rotate_left
    · simp only [Act.put, List.setIfInBounds_toArray, List.set_cons_zero, List.set_cons_succ, i64_w, i32_w]
      rfl
    refine pure_ (i := 3) (N := some 27) (v := undef) (a' := ?_) #[true, true, true, true, false, false, false, false, false, false, false, false, false, false, false, false, false, false, false, false] rfl rfl (any_of HT_.out (by kernel_rfl)) (fun _ _ _ h => h) (Or.inr ⟨by rfl, rfl⟩) ?_ ?_
    rotate_left
    · simp only [Act.put, List.setIfInBounds_toArray, List.set_cons_zero, List.set_cons_succ, i64_w, i32_w]
      rfl
    refine pure_ (i := 4) (N := some 28) (v := undef) (a' := ?_) #[true, true, true, true, true, false, false, false, false, false, false, false, false, false, false, false, false, false, false, false] rfl rfl (any_of HT_.out (by kernel_rfl)) (fun _ _ _ h => h) (Or.inr ⟨by rfl, rfl⟩) ?_ ?_
    rotate_left
    · simp only [Act.put, List.setIfInBounds_toArray, List.set_cons_zero, List.set_cons_succ, i64_w, i32_w]
      rfl
    refine pure_ (i := 5) (N := some 29) (v := undef) (a' := ?_) #[true, true, true, true, true, true, false, false, false, false, false, false, false, false, false, false, false, false, false, false] rfl rfl (any_of HT_.out (by kernel_rfl)) (fun _ _ _ h => h) (Or.inr ⟨by rfl, rfl⟩) ?_ ?_
    rotate_left
    · simp only [Act.put, List.setIfInBounds_toArray, List.set_cons_zero, List.set_cons_succ, i64_w, i32_w]
      rfl
    refine pure_ (i := 6) (N := some 30) (v := undef) (a' := ?_) #[true, true, true, true, true, true, true, false, false, false, false, false, false, false, false, false, false, false, false, false] rfl rfl (any_of HT_.out (by kernel_rfl)) (fun _ _ _ h => h) (Or.inr ⟨by rfl, rfl⟩) ?_ ?_
    rotate_left
    · simp only [Act.put, List.setIfInBounds_toArray, List.set_cons_zero, List.set_cons_succ, i64_w, i32_w]
      rfl
    refine pure_ (i := 7) (N := some 31) (v := undef) (a' := ?_) #[true, true, true, true, true, true, true, true, false, false, false, false, false, false, false, false, false, false, false, false] rfl rfl (any_of HT_.out (by kernel_rfl)) (fun _ _ _ h => h) (Or.inr ⟨by rfl, rfl⟩) ?_ ?_
    rotate_left
    · simp only [Act.put, List.setIfInBounds_toArray, List.set_cons_zero, List.set_cons_succ, i64_w, i32_w]
      rfl
    refine pure_ (i := 8) (N := some 32) (v := undef) (a' := ?_) #[true, true, true, true, true, true, true, true, true, false, false, false, false, false, false, false, false, false, false, false] rfl rfl (any_of HT_.out (by kernel_rfl)) (fun _ _ _ h => h) (Or.inr ⟨by rfl, rfl⟩) ?_ ?_
    rotate_left
    · simp only [Act.put, List.setIfInBounds_toArray, List.set_cons_zero, List.set_cons_succ, i64_w, i32_w]
      rfl
    refine pure_ (i := 9) (N := some 33) (v := undef) (a' := ?_) #[true, true, true, true, true, true, true, true, true, true, false, false, false, false, false, false, false, false, false, false] rfl rfl (any_of HT_.out (by kernel_rfl)) (fun _ _ _ h => h) (Or.inr ⟨by rfl, rfl⟩) ?_ ?_
    rotate_left
    · simp only [Act.put, List.setIfInBounds_toArray, List.set_cons_zero, List.set_cons_succ, i64_w, i32_w]
      rfl
    refine pure_ (i := 10) (N := some 34) (v := undef) (a' := ?_) #[true, true, true, true, true, true, true, true, true, true, true, false, false, false, false, false, false, false, false, false] rfl rfl (any_of HT_.out (by kernel_rfl)) (fun _ _ _ h => h) (Or.inr ⟨by rfl, rfl⟩) ?_ ?_
    rotate_left
    · simp only [Act.put, List.setIfInBounds_toArray, List.set_cons_zero, List.set_cons_succ, i64_w, i32_w]
      rfl
    refine pure_ (i := 11) (N := some 35) (v := ?_) (a' := ?_) #[true, true, true, true, true, true, true, true, true, true, true, true, false, false, false, false, false, false, false, false] rfl rfl (any_of HT_.out (by kernel_rfl)) (fun _ _ _ h => h) (Or.inl ⟨by rfl, ?_⟩) ?_ ?_
    rotate_left
    · intro w'
      go_simp
      with_reducible rfl
    rotate_left
    · simp only [Act.put, List.setIfInBounds_toArray, List.set_cons_zero, List.set_cons_succ, i64_w, i32_w]
      rfl
    refine pure_ (i := 12) (N := some 36) (v := ?_) (a' := ?_) #[true, true, true, true, true, true, true, true, true, true, true, true, true, false, false, false, false, false, false, false] rfl rfl (any_of HT_.out (by kernel_rfl)) (fun _ _ _ h => h) (Or.inl ⟨by rfl, ?_⟩) ?_ ?_
    rotate_left
    · intro w'
      go_simp
      with_reducible rfl
    rotate_left
    · simp only [Act.put, List.setIfInBounds_toArray, List.set_cons_zero, List.set_cons_succ, i64_w, i32_w]
      rfl
    refine pure_ (i := 13) (N := some 37) (v := undef) (a' := ?_) #[true, true, true, true, true, true, true, true, true, true, true, true, true, true, false, false, false, false, false, false] rfl rfl (any_of HT_.out (by kernel_rfl)) (fun _ _ _ h => h) (Or.inr ⟨by rfl, rfl⟩) ?_ ?_
    rotate_left
    · simp only [Act.put, List.setIfInBounds_toArray, List.set_cons_zero, List.set_cons_succ, i64_w, i32_w]
      rfl
    refine pure_ (i := 14) (N := some 38) (v := undef) (a' := ?_) #[true, true, true, true, true, true, true, true, true, true, true, true, true, true, true, false, false, false, false, false] rfl rfl (any_of HT_.out (by kernel_rfl)) (fun _ _ _ h => h) (Or.inr ⟨by rfl, rfl⟩) ?_ ?_
    rotate_left
    · simp only [Act.put, List.setIfInBounds_toArray, List.set_cons_zero, List.set_cons_succ, i64_w, i32_w]
      rfl
    refine pure_ (i := 15) (N := some 39) (v := undef) (a' := ?_) #[true, true, true, true, true, true, true, true, true, true, true, true, true, true, true, true, false, false, false, false] rfl rfl (any_of HT_.out (by kernel_rfl)) (fun _ _ _ h => h) (Or.inr ⟨by rfl, rfl⟩) ?_ ?_
    rotate_left
    · simp only [Act.put, List.setIfInBounds_toArray, List.set_cons_zero, List.set_cons_succ, i64_w, i32_w]
      rfl
    refine pure_ (i := 16) (N := some 40) (v := undef) (a' := ?_) #[true, true, true, true, true, true, true, true, true, true, true, true, true, true, true, true, true, false, false, false] rfl rfl (any_of HT_.out (by kernel_rfl)) (fun _ _ _ h => h) (Or.inr ⟨by rfl, rfl⟩) ?_ ?_
    rotate_left
    · simp only [Act.put, List.setIfInBounds_toArray, List.set_cons_zero, List.set_cons_succ, i64_w, i32_w]
      rfl
    refine pure_ (i := 17) (N := some 41) (v := undef) (a' := ?_) #[true, true, true, true, true, true, true, true, true, true, true, true, true, true, true, true, true, true, false, false] rfl rfl (any_of HT_.out (by kernel_rfl)) (fun _ _ _ h => h) (Or.inr ⟨by rfl, rfl⟩) ?_ ?_
    rotate_left
    · simp only [Act.put, List.setIfInBounds_toArray, List.set_cons_zero, List.set_cons_succ, i64_w, i32_w]
      rfl
    refine pure_ (i := 18) (N := some 42) (v := ?_) (a' := ?_) #[true, true, true, true, true, true, true, true, true, true, true, true, true, true, true, true, true, true, true, false] rfl rfl (any_of HT_.out (by kernel_rfl)) (fun _ _ _ h => h) (Or.inl ⟨by rfl, ?_⟩) ?_ ?_
    rotate_left
    · intro w'
      go_simp
      with_reducible rfl
    rotate_left
    · simp only [Act.put, List.setIfInBounds_toArray, List.set_cons_zero, List.set_cons_succ, i64_w, i32_w]
      rfl
    refine pure_ (i := 19) (N := some 6) (v := ?_) (a' := ?_) #[true, true, true, true, true, true, true, true, true, true, true, true, true, true, true, true, true, true, true, true] rfl rfl (any_of HT_.out (by kernel_rfl)) (fun _ _ _ h => h) (Or.inl ⟨by rfl, ?_⟩) ?_ ?_
    rotate_left
    · intro w'
      go_simp
      with_reducible rfl
    rotate_left
    · simp only [Act.put, List.setIfInBounds_toArray, List.set_cons_zero, List.set_cons_succ, i64_w, i32_w]
      rfl
    refine done_ (done_of HT_.out (by kernel_rfl)) ?_
    try go_wp2
    go_ret
    exact ⟨by first | rfl, by exact HB.out⟩


end Go.Proofs.YtmfekngjhiofaaaDoor.Q
