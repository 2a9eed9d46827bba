-- Written by the session's own program (wip/tools/ownprint.py) for this claim: functions of the translation as plain Lean functions, and their contracts.
import Derived.Test.YtmfekngjhiofaaaGreatDoorQx0
import Derived.Test.YtmfekngjhiofaaaGreatDoorQx10
namespace Go.Proofs.YtmfekngjhiofaaaGreatDoor.Q
open Go.RowKit Go.Proofs.YtmfekngjhiofaaaGreatDoorW.PrintWords Go.Proofs.YtmfekngjhiofaaaGreatDoorW.PrintLast Go.Proofs.YtmfekngjhiofaaaGreatDoorW.PrintMore
attribute [local go_sem] max2_int min2_int max_two min_two max_three min_three max_four min_four   -- for this text's walks alone
set_option linter.unusedVariables false
set_option linter.unusedSimpArgs false

/-! ### proofmarklaw27_fit: function 7 -/
def proofmarklaw27_fit.f (k : Nat) (l0_0 : List (S125)) (l0_1 : List (S72)) (l0_2 : List (S114)) (l0_3 : List (S105)) (l0_4 : List (S72)) (a0_5 : Int) (l0_6 : List (S199)) (l0_7 : List (S200)) (l0_8 : List (S94)) (l0_9 : List (S202)) (l0_10 : List (List Int)) (l0_11 : List Int) (a0_12 : ByteArray) : Option ((List (S125)) × (List (S72)) × (List (S114)) × (List (S105)) × (List (S72)) × Int × (List (S199)) × (List (S200)) × (List (S94)) × (List (S202))) := (proofmarkref27_Few.f k l0_0 l0_1 l0_2 l0_3 l0_4).bind fun bt145 => ((proofmarkref27_Latches.f a0_5 l0_6 l0_7 l0_8 l0_9).bind fun bt160 => (some (bt145.1, bt145.2.1, bt145.2.2.1, bt145.2.2.2.1, bt145.2.2.2.2, bt160.1, bt160.2.1, bt160.2.2.1, bt160.2.2.2.1, bt160.2.2.2.2)))
theorem proofmarklaw27_fit.mono : ∀ a0 a1 a2 a3 a4 a5 a6 a7 a8 a9 a10 a11 a12 k, LeO (proofmarklaw27_fit.f k a0 a1 a2 a3 a4 a5 a6 a7 a8 a9 a10 a11 a12) (proofmarklaw27_fit.f (k + 1) a0 a1 a2 a3 a4 a5 a6 a7 a8 a9 a10 a11 a12) := by
  intro a0 a1 a2 a3 a4 a5 a6 a7 a8 a9 a10 a11 a12 k
  unfold proofmarklaw27_fit.f
  repeat' first
      | (with_reducible exact proofmarkref27_Few.mono _ _ _ _ _ _)
      | (with_reducible exact LeO.refl _)
      | (with_reducible exact LeO.none _)
      | (with_reducible refine LeO.ite ?_ ?_)
      | (with_reducible refine LeO.bind ?_ (fun _ => ?_))
      | exact proofmarkref27_Few.mono _ _ _ _ _ _
      | exact LeO.none _
      | refine LeO.ite ?_ ?_
      | refine LeO.bind ?_ (fun _ => ?_)
def proofmarklaw27_fit.T1 : Bool × List (List Nat × List Nat) := (true, [([], []), ([0], [0]), ([1], [1]), ([], []), ([3], [3]), ([4, 2], [4]), ([2, 5, 0, 1, 2], [2]), ([5, 6, 0, 1, 2, 3, 4, 5, 6], [5])])
def proofmarklaw27_fit.B1 : List Nat := [0, 1, 3, 0, 8, 31, 63, 127]
theorem proofmarklaw27_fit.tab1 : rtab .any (opsOf Tryz.f7 1) = proofmarklaw27_fit.T1 := by kernel_rfl
theorem proofmarklaw27_fit.bits1 : waitsOk proofmarklaw27_fit.T1.2 proofmarklaw27_fit.B1 = true := by kernel_rfl
set_option maxHeartbeats 8000000 in
set_option maxRecDepth 100000 in
theorem proofmarklaw27_fit.calls (k : Nat) (A0_0 : Option Addr) (c0_0 : Nat) (l0_0 : List (S125)) (A0_1 : Option Addr) (c0_1 : Nat) (l0_1 : List (S72)) (A0_2 : Option Addr) (c0_2 : Nat) (l0_2 : List (S114)) (A0_3 : Option Addr) (c0_3 : Nat) (l0_3 : List (S105)) (A0_4 : Option Addr) (c0_4 : Nat) (l0_4 : List (S72)) (a0_5 : Int) (A0_6 : Option Addr) (c0_6 : Nat) (l0_6 : List (S199)) (A0_7 : Option Addr) (c0_7 : Nat) (l0_7 : List (S200)) (A0_8 : Option Addr) (c0_8 : Nat) (l0_8 : List (S94)) (A0_9 : Option Addr) (c0_9 : Nat) (l0_9 : List (S202)) (A0_10 : Option Addr) (c0_10 : Nat) (l0_10 : List (List Int)) (A0_11 : Option Addr) (c0_11 : Nat) (l0_11 : List Int) (a0_12 : ByteArray) (r1 : List (S125)) (r2 : List (S72)) (r3 : List (S114)) (r4 : List (S105)) (r5 : List (S72)) (r6 : Int) (r7 : List (S199)) (r8 : List (S200)) (r9 : List (S94)) (r10 : List (S202)) (w : World) (hr0_0 : Kd.C k125 w A0_0 l0_0.length l0_0) (hc0_0 : l0_0.length ≤ c0_0) (hr0_1 : Kd.C k72 w A0_1 l0_1.length l0_1) (hc0_1 : l0_1.length ≤ c0_1) (hr0_2 : Kd.C k114 w A0_2 l0_2.length l0_2) (hc0_2 : l0_2.length ≤ c0_2) (hr0_3 : Kd.C k105 w A0_3 l0_3.length l0_3) (hc0_3 : l0_3.length ≤ c0_3) (hr0_4 : Kd.C k72 w A0_4 l0_4.length l0_4) (hc0_4 : l0_4.length ≤ c0_4) (hr0_6 : Kd.C k199 w A0_6 l0_6.length l0_6) (hc0_6 : l0_6.length ≤ c0_6) (hr0_7 : Kd.C k200 w A0_7 l0_7.length l0_7) (hc0_7 : l0_7.length ≤ c0_7) (hr0_8 : Kd.C k94 w A0_8 l0_8.length l0_8) (hc0_8 : l0_8.length ≤ c0_8) (hr0_9 : Kd.C k202 w A0_9 l0_9.length l0_9) (hc0_9 : l0_9.length ≤ c0_9) (hr0_10 : Kd.C (Kd.slice 3 (Kd.int .i64)) w A0_10 l0_10.length l0_10) (hc0_10 : l0_10.length ≤ c0_10) (hr0_11 : Kd.C (Kd.int .i64) w A0_11 l0_11.length l0_11) (hc0_11 : l0_11.length ≤ c0_11) (h : proofmarklaw27_fit.f k l0_0 l0_1 l0_2 l0_3 l0_4 a0_5 l0_6 l0_7 l0_8 l0_9 l0_10 l0_11 a0_12 = some (r1, r2, r3, r4, r5, r6, r7, r8, r9, r10)) :
    Calls Tryz.prog 7 #[.agg #[.slice A0_0 l0_0.length c0_0, .slice A0_1 l0_1.length c0_1, .slice A0_2 l0_2.length c0_2, .slice A0_3 l0_3.length c0_3, .slice A0_4 l0_4.length c0_4, .int .i64 a0_5, .slice A0_6 l0_6.length c0_6, .slice A0_7 l0_7.length c0_7, .slice A0_8 l0_8.length c0_8, .slice A0_9 l0_9.length c0_9, .slice A0_10 l0_10.length c0_10, .slice A0_11 l0_11.length c0_11, .string a0_12]] w fun e w' => ∃ v0_ v1_ v2_ v3_ v4_ v6_ v7_ v8_ v9_ : Value, e = .returned (.tuple #[.agg #[v0_, v1_, v2_, v3_, v4_], .agg #[.int .i64 r6, v6_, v7_, v8_, v9_]]) ∧ Kd.R k125 125 w' w.heap.size (fun _ => True) v0_ r1 ∧ Kd.R k72 72 w' w.heap.size (fun k_ => some k_ ≠ (v4_ : Value).ownBlock) v1_ r2 ∧ Kd.R k114 114 w' w.heap.size (fun _ => True) v2_ r3 ∧ Kd.R k105 105 w' w.heap.size (fun _ => True) v3_ r4 ∧ Kd.R k72 72 w' w.heap.size (fun k_ => some k_ ≠ (v1_ : Value).ownBlock) v4_ r5 ∧ Kd.R k199 199 w' w.heap.size (fun _ => True) v6_ r7 ∧ Kd.R k200 200 w' w.heap.size (fun _ => True) v7_ r8 ∧ Kd.R k94 94 w' w.heap.size (fun _ => True) v8_ r9 ∧ Kd.R k202 202 w' w.heap.size (fun _ => True) v9_ r10 ∧ Below w.heap.size w w' := by
  have hu39 := Tryz.underlying39
  have hu27 := Tryz.underlying27
  have hu35 := Tryz.underlying35
  have HR0_0 := Aside0.mk hr0_0
  have HC0_0 := Aside0.mk hc0_0
  clear hr0_0 hc0_0
  have HR0_1 := Aside0.mk hr0_1
  have HC0_1 := Aside0.mk hc0_1
  clear hr0_1 hc0_1
  have HR0_2 := Aside0.mk hr0_2
  have HC0_2 := Aside0.mk hc0_2
  clear hr0_2 hc0_2
  have HR0_3 := Aside0.mk hr0_3
  have HC0_3 := Aside0.mk hc0_3
  clear hr0_3 hc0_3
  have HR0_4 := Aside0.mk hr0_4
  have HC0_4 := Aside0.mk hc0_4
  clear hr0_4 hc0_4
  have HR0_6 := Aside0.mk hr0_6
  have HC0_6 := Aside0.mk hc0_6
  clear hr0_6 hc0_6
  have HR0_7 := Aside0.mk hr0_7
  have HC0_7 := Aside0.mk hc0_7
  clear hr0_7 hc0_7
  have HR0_8 := Aside0.mk hr0_8
  have HC0_8 := Aside0.mk hc0_8
  clear hr0_8 hc0_8
  have HR0_9 := Aside0.mk hr0_9
  have HC0_9 := Aside0.mk hc0_9
  clear hr0_9 hc0_9
  have HR0_10 := Aside0.mk hr0_10
  have HC0_10 := Aside0.mk hc0_10
  clear hr0_10 hc0_10
  have HR0_11 := Aside0.mk hr0_11
  have HC0_11 := Aside0.mk hc0_11
  clear hr0_11 hc0_11
  have HB := Aside0.mk (Below.refl w.heap.size w)
  have H : ((proofmarkref27_Few.f k l0_0 l0_1 l0_2 l0_3 l0_4).bind fun bt145 => ((proofmarkref27_Latches.f a0_5 l0_6 l0_7 l0_8 l0_9).bind fun bt160 => (some (bt145.1, bt145.2.1, bt145.2.2.1, bt145.2.2.2.1, bt145.2.2.2.2, bt160.1, bt160.2.1, bt160.2.2.1, bt160.2.2.2.1, bt160.2.2.2.2)))) = some (r1, r2, r3, r4, r5, r6, r7, r8, r9, r10) := h
  clear h
  replace H := Option.bind_eq_some_iff.mp H
  obtain ⟨⟨t145, t148, t151, t154, t157⟩, A20, H⟩ := H
  replace H : ((proofmarkref27_Latches.f a0_5 l0_6 l0_7 l0_8 l0_9).bind fun bt160 => (some (t145, t148, t151, t154, t157, bt160.1, bt160.2.1, bt160.2.2.1, bt160.2.2.2.1, bt160.2.2.2.2))) = some (r1, r2, r3, r4, r5, r6, r7, r8, r9, r10) := H
  have A2 := Aside0.mk A20
  clear A20
  replace H := Option.bind_eq_some_iff.mp H
  obtain ⟨⟨t160, t161, t164, t167, t170⟩, A30, H⟩ := H
  replace H : (some (t145, t148, t151, t154, t157, t160, t161, t164, t167, t170)) = some (r1, r2, r3, r4, r5, r6, r7, r8, r9, r10) := H
  have A3 := Aside0.mk A30
  clear A30
  simp only [Option.some.injEq, Prod.mk.injEq] at H
  obtain ⟨rfl, rfl, rfl, rfl, rfl, rfl, rfl, rfl, rfl, rfl⟩ := H
  go_enter Tryz.func7, Tryz.ntmps7
  try go_wp2_with (first | ((with_reducible refine gate_dst (N := 1) rfl ?_); refine box_event ?hg (N := 1) ?hd (cs := #[.slice A0_0 l0_0.length c0_0, .slice A0_1 l0_1.length c0_1, .slice A0_2 l0_2.length c0_2, .slice A0_3 l0_3.length c0_3, .slice A0_4 l0_4.length c0_4, .int .i64 a0_5, .slice A0_6 l0_6.length c0_6, .slice A0_7 l0_7.length c0_7, .slice A0_8 l0_8.length c0_8, .slice A0_9 l0_9.length c0_9, .slice A0_10 l0_10.length c0_10, .slice A0_11 l0_11.length c0_11, .string a0_12]) (t := 39) ?hr ?_; (case hd => rfl); (case hg => rfl); (case hr => first | (go_simp; done)); intro gb142 hg w4 hbox hb; have n0_ := Aside0.mk (below_step HB.out hb); have n1_ := Aside0.mk (hbox); have n2_ := Aside0.mk ((by rw [hg]; exact (below_size HB.out) : w.heap.size ≤ gb142)); have n3_ := Aside0.mk ((by rw [hg]; exact (below_size HB.out) : w.heap.size ≤ gb142)); clear HB; have HB := n0_; have BK142 := n1_; have GW142 := n2_; have GE142 := n3_; clear n0_ n1_ n2_ n3_; clear hb hbox hg) | ((with_reducible refine gate_dst (N := 2) rfl ?_); refine box_event ?hg (N := 2) ?hd (cs := #[.slice none 0 0, .slice none 0 0, .slice none 0 0, .slice none 0 0, .slice none 0 0]) (t := 27) ?hr ?_; (case hd => rfl); (case hg => rfl); (case hr => first | (go_simp; done)); intro gb143 hg w5 hbox hb; have n0_ := Aside0.mk (blk_below BK142.out hb); have n1_ := Aside0.mk (below_step HB.out hb); have n2_ := Aside0.mk (hbox); have n3_ := Aside0.mk ((by rw [hg]; exact (below_size HB.out) : w.heap.size ≤ gb143)); have n4_ := Aside0.mk ((by rw [hg]; exact (below_size HB.out) : w.heap.size ≤ gb143)); have n5_ := Aside0.mk ((by rw [hg]; exact Nat.ne_of_lt (blk_lt BK142.out) : gb142 ≠ gb143)); have n6_ := Aside0.mk ((by rw [hg]; exact Nat.ne_of_gt (blk_lt BK142.out) : gb143 ≠ gb142)); clear BK142; clear HB; have BK142 := n0_; have HB := n1_; have BK143 := n2_; have GW143 := n3_; have GE143 := n4_; have NB142_143 := n5_; have NB143_142 := n6_; clear n0_ n1_ n2_ n3_ n4_ n5_ n6_; clear hb hbox hg) | ((with_reducible refine gate_dst (N := 3) rfl ?_); refine box_event ?hg (N := 3) ?hd (cs := #[.int .i64 0, .slice none 0 0, .slice none 0 0, .slice none 0 0, .slice none 0 0]) (t := 35) ?hr ?_; (case hd => rfl); (case hg => rfl); (case hr => first | (go_simp; done)); intro gb144 hg w6 hbox hb; have n0_ := Aside0.mk (blk_below BK142.out hb); have n1_ := Aside0.mk (blk_below BK143.out hb); have n2_ := Aside0.mk (below_step HB.out hb); have n3_ := Aside0.mk (hbox); have n4_ := Aside0.mk ((by rw [hg]; exact (below_size HB.out) : w.heap.size ≤ gb144)); have n5_ := Aside0.mk ((by rw [hg]; exact (below_size HB.out) : w.heap.size ≤ gb144)); have n6_ := Aside0.mk ((by rw [hg]; exact Nat.ne_of_lt (blk_lt BK142.out) : gb142 ≠ gb144)); have n7_ := Aside0.mk ((by rw [hg]; exact Nat.ne_of_gt (blk_lt BK142.out) : gb144 ≠ gb142)); have n8_ := Aside0.mk ((by rw [hg]; exact Nat.ne_of_lt (blk_lt BK143.out) : gb143 ≠ gb144)); have n9_ := Aside0.mk ((by rw [hg]; exact Nat.ne_of_gt (blk_lt BK143.out) : gb144 ≠ gb143)); clear BK142; clear BK143; clear HB; have BK142 := n0_; have BK143 := n1_; have HB := n2_; have BK144 := n3_; have GW144 := n4_; have GE144 := n5_; have NB142_144 := n6_; have NB144_142 := n7_; have NB143_144 := n8_; have NB144_143 := n9_; clear n0_ n1_ n2_ n3_ n4_ n5_ n6_ n7_ n8_ n9_; clear hb hbox hg))
  have n0_ := Aside0.mk (blk_drew BK142.out)
  have n1_ := Aside0.mk (blk_drew BK143.out)
  have n2_ := Aside0.mk (blk_drew BK144.out)
  have n3_ := Aside0.mk (below_drew1 HB.out)
  clear BK142
  clear BK143
  clear BK144
  clear HB
  have BK142 := n0_
  have BK143 := n1_
  have BK144 := n2_
  have HB := n3_
  clear n0_ n1_ n2_ n3_
  refine start_ (n := 8) (S := fun w' => w'.cell? ⟨gb142, 0, none⟩ = some (.slice A0_0 l0_0.length c0_0) ∧ w'.cell? ⟨gb142, 1, none⟩ = some (.slice A0_1 l0_1.length c0_1) ∧ w'.cell? ⟨gb142, 2, none⟩ = some (.slice A0_2 l0_2.length c0_2) ∧ w'.cell? ⟨gb142, 3, none⟩ = some (.slice A0_3 l0_3.length c0_3) ∧ w'.cell? ⟨gb142, 4, none⟩ = some (.slice A0_4 l0_4.length c0_4) ∧ w'.cell? ⟨gb142, 5, none⟩ = some (.int .i64 a0_5) ∧ w'.cell? ⟨gb142, 6, none⟩ = some (.slice A0_6 l0_6.length c0_6) ∧ w'.cell? ⟨gb142, 7, none⟩ = some (.slice A0_7 l0_7.length c0_7) ∧ w'.cell? ⟨gb142, 8, none⟩ = some (.slice A0_8 l0_8.length c0_8) ∧ w'.cell? ⟨gb142, 9, none⟩ = some (.slice A0_9 l0_9.length c0_9) ∧ w'.cell? ⟨gb142, 10, none⟩ = some (.slice A0_10 l0_10.length c0_10) ∧ w'.cell? ⟨gb142, 11, none⟩ = some (.slice A0_11 l0_11.length c0_11) ∧ w'.cell? ⟨gb142, 12, none⟩ = some (.string a0_12)) (ds := []) #[false, false, false, false, false, false, false, false] (by kernel_rfl) rfl rfl ⟨(blk_cell BK142.out 0).trans rfl, (blk_cell BK142.out 1).trans rfl, (blk_cell BK142.out 2).trans rfl, (blk_cell BK142.out 3).trans rfl, (blk_cell BK142.out 4).trans rfl, (blk_cell BK142.out 5).trans rfl, (blk_cell BK142.out 6).trans rfl, (blk_cell BK142.out 7).trans rfl, (blk_cell BK142.out 8).trans rfl, (blk_cell BK142.out 9).trans rfl, (blk_cell BK142.out 10).trans rfl, (blk_cell BK142.out 11).trans rfl, (blk_cell BK142.out 12).trans rfl⟩ (fun hHeld => ?_); refine with_tabW proofmarklaw27_fit.tab1 proofmarklaw27_fit.bits1 (fun HT_ HW_ => ?_)
  generalize w6.drew = w7 at BK142 BK143 BK144 HB hHeld ⊢
  refine pure_ (i := 0) (N := some 4) (v := ?_) (a' := ?_) #[true, false, false, false, false, false, false, false] rfl rfl (any_of HT_.out (by kernel_rfl)) (fun _ _ _ h => h) (Or.inl ⟨by rfl, ?_⟩) ?_ ?_
  rotate_left
  · intro w'
    go_simp
    with_reducible rfl
  rotate_left
  · simp only [Act.put, List.setIfInBounds_toArray, List.set_cons_zero, List.set_cons_succ, i64_w, i32_w]
    rfl
  refine pure_ (i := 3) (N := some 7) (v := ?_) (a' := ?_) #[true, false, false, true, false, false, false, false] rfl rfl (any_of HT_.out (by kernel_rfl)) (fun _ _ _ h => h) (Or.inl ⟨by rfl, ?_⟩) ?_ ?_
  rotate_left
  · intro w'
    go_simp
    with_reducible rfl
  rotate_left
  · simp only [Act.put, List.setIfInBounds_toArray, List.set_cons_zero, List.set_cons_succ, i64_w, i32_w]
    rfl
  refine take_ (i := 1) (N := some 5) (v := ?_) (a' := ?_) #[true, true, false, true, false, false, false, false] rfl rfl (take_ofW HT_.out HW_.out (by kernel_rfl)) (fun _ _ _ h => h) (Or.inl ⟨by rfl, ?_⟩) hHeld ?_ ?_
  rotate_left
  · rintro w' ⟨s0, s1, s2, s3, s4, s5, s6, s7, s8, s9, s10, s11, s12⟩
    go_simp
    with_reducible rfl
  rotate_left
  · simp only [Act.put, List.setIfInBounds_toArray, List.set_cons_zero, List.set_cons_succ, i64_w, i32_w]
    rfl
  refine take_ (i := 4) (N := some 8) (v := ?_) (a' := ?_) #[true, true, false, true, true, false, false, false] rfl rfl (take_ofW HT_.out HW_.out (by kernel_rfl)) (fun _ _ _ h => h) (Or.inl ⟨by rfl, ?_⟩) hHeld ?_ ?_
  rotate_left
  · rintro w' ⟨s0, s1, s2, s3, s4, s5, s6, s7, s8, s9, s10, s11, s12⟩
    go_simp
    with_reducible rfl
  rotate_left
  · simp only [Act.put, List.setIfInBounds_toArray, List.set_cons_zero, List.set_cons_succ, i64_w, i32_w]
    rfl
  refine one_ (i := 2) (N := some 6) #[true, true, true, true, true, false, false, false] rfl rfl (one_of HT_.out (by kernel_rfl)) (by decide) (fun K hK => ?_)
  refine goes_ Tryz.func26 (by kernel_rfl) rfl #[.agg #[.slice A0_0 l0_0.length c0_0, .slice A0_1 l0_1.length c0_1, .slice A0_2 l0_2.length c0_2, .slice A0_3 l0_3.length c0_3, .slice A0_4 l0_4.length c0_4]] (by rfl) rfl rfl (by (try simp only [List.map_toArray, List.map_cons, List.map_nil]); first | rfl) ?_
  with_reducible refine (proofmarkref27_Few.calls k _ _ l0_0 _ _ l0_1 _ _ l0_2 _ _ l0_3 _ _ l0_4 t145 t148 t151 t154 t157 _ ?side1 ?side2 ?side3 ?side4 ?side5 ?side6 ?side7 ?side8 ?side9 ?side10 A2.out).mono ?_
  (case side1 => repeat (first | exact (Kd.C_below HR0_0.out HB.out)))
  (case side2 => exact HC0_0.out)
  (case side3 => repeat (first | exact (Kd.C_below HR0_1.out HB.out)))
  (case side4 => exact HC0_1.out)
  (case side5 => repeat (first | exact (Kd.C_below HR0_2.out HB.out)))
  (case side6 => exact HC0_2.out)
  (case side7 => repeat (first | exact (Kd.C_below HR0_3.out HB.out)))
  (case side8 => exact HC0_3.out)
  (case side9 => repeat (first | exact (Kd.C_below HR0_4.out HB.out)))
  (case side10 => exact HC0_4.out)
  rintro e w8 ⟨v146, v149, v152, v155, v158, rfl, ho0, ho1, ho2, ho3, ho4, hb⟩
  refine ⟨_, rfl, ?_⟩
  have n0_ := Aside0.mk (Kd.R_lower ho0 (below_size HB.out))
  have n1_ := Aside0.mk (Kd.R_lower ho1 (below_size HB.out))
  have n2_ := Aside0.mk (Kd.R_lower ho2 (below_size HB.out))
  have n3_ := Aside0.mk (Kd.R_lower ho3 (below_size HB.out))
  have n4_ := Aside0.mk (Kd.R_lower ho4 (below_size HB.out))
  have n5_ := Aside0.mk (blk_below BK142.out hb)
  have n6_ := Aside0.mk (blk_below BK143.out hb)
  have n7_ := Aside0.mk (blk_below BK144.out hb)
  have n8_ := Aside0.mk (below_step HB.out hb)
  clear BK142
  clear BK143
  clear BK144
  clear HB
  have HO147 := n0_
  have HO150 := n1_
  have HO153 := n2_
  have HO156 := n3_
  have HO159 := n4_
  have BK142 := n5_
  have BK143 := n6_
  have BK144 := n7_
  have HB := n8_
  clear n0_ n1_ n2_ n3_ n4_ n5_ n6_ n7_ n8_
  (try clear hb)
  (try clear hb2)
  (try clear hk)
  (try clear hi)
  (try clear ho0)
  (try clear ho1)
  (try clear ho2)
  (try clear ho3)
  (try clear ho4)
  refine hK.out _ _ ⟨(blk_cell BK142.out 0).trans rfl, (blk_cell BK142.out 1).trans rfl, (blk_cell BK142.out 2).trans rfl, (blk_cell BK142.out 3).trans rfl, (blk_cell BK142.out 4).trans rfl, (blk_cell BK142.out 5).trans rfl, (blk_cell BK142.out 6).trans rfl, (blk_cell BK142.out 7).trans rfl, (blk_cell BK142.out 8).trans rfl, (blk_cell BK142.out 9).trans rfl, (blk_cell BK142.out 10).trans rfl, (blk_cell BK142.out 11).trans rfl, (blk_cell BK142.out 12).trans rfl⟩ (fun hHeld => ?_)
  clear hK K
  refine norm_ (a' := ?_) ?_ ?_
  rotate_left
  · show Act.put _ (some 6) _ = _
    simp only [Act.put, List.setIfInBounds_toArray, List.set_cons_zero, List.set_cons_succ, i64_w, i32_w]
    rfl
  refine one_ (i := 5) (N := some 9) #[true, true, true, true, true, true, false, false] rfl rfl (one_of HT_.out (by kernel_rfl)) (by decide) (fun K hK => ?_)
  refine goes_ Tryz.func27 (by kernel_rfl) rfl #[.agg #[.int .i64 a0_5, .slice A0_6 l0_6.length c0_6, .slice A0_7 l0_7.length c0_7, .slice A0_8 l0_8.length c0_8, .slice A0_9 l0_9.length c0_9]] (by rfl) rfl rfl (by (try simp only [List.map_toArray, List.map_cons, List.map_nil]); first | rfl) ?_
  with_reducible refine (proofmarkref27_Latches.calls a0_5 _ _ l0_6 _ _ l0_7 _ _ l0_8 _ _ l0_9 t160 t161 t164 t167 t170 _ ?side1 ?side2 ?side3 ?side4 ?side5 ?side6 ?side7 ?side8 A3.out).mono ?_
  (case side1 => repeat (first | exact (Kd.C_below HR0_6.out HB.out)))
  (case side2 => exact HC0_6.out)
  (case side3 => repeat (first | exact (Kd.C_below HR0_7.out HB.out)))
  (case side4 => exact HC0_7.out)
  (case side5 => repeat (first | exact (Kd.C_below HR0_8.out HB.out)))
  (case side6 => exact HC0_8.out)
  (case side7 => repeat (first | exact (Kd.C_below HR0_9.out HB.out)))
  (case side8 => exact HC0_9.out)
  rintro e w9 ⟨v162, v165, v168, v171, rfl, ho0, ho1, ho2, ho3, hb⟩
  refine ⟨_, rfl, ?_⟩
  have n0_ := Aside0.mk (Kd.R_below HO147.out hb)
  have n1_ := Aside0.mk (Kd.R_below HO150.out hb)
  have n2_ := Aside0.mk (Kd.R_below HO153.out hb)
  have n3_ := Aside0.mk (Kd.R_below HO156.out hb)
  have n4_ := Aside0.mk (Kd.R_below HO159.out hb)
  have n5_ := Aside0.mk (Kd.R_lower ho0 (below_size HB.out))
  have n6_ := Aside0.mk (Kd.R_lower ho1 (below_size HB.out))
  have n7_ := Aside0.mk (Kd.R_lower ho2 (below_size HB.out))
  have n8_ := Aside0.mk (Kd.R_lower ho3 (below_size HB.out))
  have n9_ := Aside0.mk (blk_below BK142.out hb)
  have n10_ := Aside0.mk (blk_below BK143.out hb)
  have n11_ := Aside0.mk (blk_below BK144.out hb)
  have n12_ := Aside0.mk (below_step HB.out hb)
  clear HO147
  clear HO150
  clear HO153
  clear HO156
  clear HO159
  clear BK142
  clear BK143
  clear BK144
  clear HB
  have HO147 := n0_
  have HO150 := n1_
  have HO153 := n2_
  have HO156 := n3_
  have HO159 := n4_
  have HO163 := n5_
  have HO166 := n6_
  have HO169 := n7_
  have HO172 := n8_
  have BK142 := n9_
  have BK143 := n10_
  have BK144 := n11_
  have HB := n12_
  clear n0_ n1_ n2_ n3_ n4_ n5_ n6_ n7_ n8_ n9_ n10_ n11_ n12_
  (try clear hb)
  (try clear hb2)
  (try clear hk)
  (try clear hi)
  (try clear ho0)
  (try clear ho1)
  (try clear ho2)
  (try clear ho3)
  obtain ⟨Ao10, co10, eo10⟩ := Kd.R_slice HO147.out
  (first | subst eo10)
  obtain ⟨Ao12, co12, eo12⟩ := Kd.R_slice HO150.out
  (first | subst eo12)
  obtain ⟨Ao14, co14, eo14⟩ := Kd.R_slice HO153.out
  (first | subst eo14)
  obtain ⟨Ao16, co16, eo16⟩ := Kd.R_slice HO156.out
  (first | subst eo16)
  obtain ⟨Ao18, co18, eo18⟩ := Kd.R_slice HO159.out
  (first | subst eo18)
  obtain ⟨Ao21, co21, eo21⟩ := Kd.R_slice HO163.out
  (first | subst eo21)
  obtain ⟨Ao23, co23, eo23⟩ := Kd.R_slice HO166.out
  (first | subst eo23)
  obtain ⟨Ao25, co25, eo25⟩ := Kd.R_slice HO169.out
  (first | subst eo25)
  obtain ⟨Ao27, co27, eo27⟩ := Kd.R_slice HO172.out
  (first | subst eo27)
  refine hK.out _ _ ⟨(blk_cell BK142.out 0).trans rfl, (blk_cell BK142.out 1).trans rfl, (blk_cell BK142.out 2).trans rfl, (blk_cell BK142.out 3).trans rfl, (blk_cell BK142.out 4).trans rfl, (blk_cell BK142.out 5).trans rfl, (blk_cell BK142.out 6).trans rfl, (blk_cell BK142.out 7).trans rfl, (blk_cell BK142.out 8).trans rfl, (blk_cell BK142.out 9).trans rfl, (blk_cell BK142.out 10).trans rfl, (blk_cell BK142.out 11).trans rfl, (blk_cell BK142.out 12).trans rfl⟩ (fun hHeld => ?_)
  clear hK K
  refine norm_ (a' := ?_) ?_ ?_
  rotate_left
  · show Act.put _ (some 9) _ = _
    simp only [Act.put, List.setIfInBounds_toArray, List.set_cons_zero, List.set_cons_succ, i64_w, i32_w]
    rfl
  refine one_ (i := 6) (N := none) #[true, true, true, true, true, true, true, false] rfl rfl (one_of HT_.out (by kernel_rfl)) (by decide) (fun K hK => ?_)
  have hs11 : w9.cell? ⟨gb143, 0, none⟩ = some (.slice none 0 0) := (blk_cell BK143.out 0).trans rfl
  have hfs11 := blk_frozen BK143.out 0
  have hns11_0 := NB142_143.out
  have hns11_2 := NB144_143.out
  have hms11_0 := NB143_142.out
  have hms11_2 := NB143_144.out
  have hs13 : w9.cell? ⟨gb143, 1, none⟩ = some (.slice none 0 0) := (blk_cell BK143.out 1).trans rfl
  have hfs13 := blk_frozen BK143.out 1
  have hns13_0 := NB142_143.out
  have hns13_2 := NB144_143.out
  have hms13_0 := NB143_142.out
  have hms13_2 := NB143_144.out
  have hs15 : w9.cell? ⟨gb143, 2, none⟩ = some (.slice none 0 0) := (blk_cell BK143.out 2).trans rfl
  have hfs15 := blk_frozen BK143.out 2
  have hns15_0 := NB142_143.out
  have hns15_2 := NB144_143.out
  have hms15_0 := NB143_142.out
  have hms15_2 := NB143_144.out
  have hs17 : w9.cell? ⟨gb143, 3, none⟩ = some (.slice none 0 0) := (blk_cell BK143.out 3).trans rfl
  have hfs17 := blk_frozen BK143.out 3
  have hns17_0 := NB142_143.out
  have hns17_2 := NB144_143.out
  have hms17_0 := NB143_142.out
  have hms17_2 := NB143_144.out
  have hs19 : w9.cell? ⟨gb143, 4, none⟩ = some (.slice none 0 0) := (blk_cell BK143.out 4).trans rfl
  have hfs19 := blk_frozen BK143.out 4
  have hns19_0 := NB142_143.out
  have hns19_2 := NB144_143.out
  have hms19_0 := NB143_142.out
  have hms19_2 := NB143_144.out
  refine skip_ (w1 := ?_) (by rfl) rfl ?_ ?_
  rotate_left
  · go_simp
    rfl
  refine hK.out _ _ ⟨((cell_far (p := ⟨gb143, _, none⟩) NB142_143.out _).trans (((cell_far (p := ⟨gb143, _, none⟩) NB142_143.out _).trans (((cell_far (p := ⟨gb143, _, none⟩) NB142_143.out _).trans (((cell_far (p := ⟨gb143, _, none⟩) NB142_143.out _).trans (((cell_far (p := ⟨gb143, _, none⟩) NB142_143.out _).trans (hHeld.1)))))))))), ((cell_far (p := ⟨gb143, _, none⟩) NB142_143.out _).trans (((cell_far (p := ⟨gb143, _, none⟩) NB142_143.out _).trans (((cell_far (p := ⟨gb143, _, none⟩) NB142_143.out _).trans (((cell_far (p := ⟨gb143, _, none⟩) NB142_143.out _).trans (((cell_far (p := ⟨gb143, _, none⟩) NB142_143.out _).trans (hHeld.2.1)))))))))), ((cell_far (p := ⟨gb143, _, none⟩) NB142_143.out _).trans (((cell_far (p := ⟨gb143, _, none⟩) NB142_143.out _).trans (((cell_far (p := ⟨gb143, _, none⟩) NB142_143.out _).trans (((cell_far (p := ⟨gb143, _, none⟩) NB142_143.out _).trans (((cell_far (p := ⟨gb143, _, none⟩) NB142_143.out _).trans (hHeld.2.2.1)))))))))), ((cell_far (p := ⟨gb143, _, none⟩) NB142_143.out _).trans (((cell_far (p := ⟨gb143, _, none⟩) NB142_143.out _).trans (((cell_far (p := ⟨gb143, _, none⟩) NB142_143.out _).trans (((cell_far (p := ⟨gb143, _, none⟩) NB142_143.out _).trans (((cell_far (p := ⟨gb143, _, none⟩) NB142_143.out _).trans (hHeld.2.2.2.1)))))))))), ((cell_far (p := ⟨gb143, _, none⟩) NB142_143.out _).trans (((cell_far (p := ⟨gb143, _, none⟩) NB142_143.out _).trans (((cell_far (p := ⟨gb143, _, none⟩) NB142_143.out _).trans (((cell_far (p := ⟨gb143, _, none⟩) NB142_143.out _).trans (((cell_far (p := ⟨gb143, _, none⟩) NB142_143.out _).trans (hHeld.2.2.2.2.1)))))))))), ((cell_far (p := ⟨gb143, _, none⟩) NB142_143.out _).trans (((cell_far (p := ⟨gb143, _, none⟩) NB142_143.out _).trans (((cell_far (p := ⟨gb143, _, none⟩) NB142_143.out _).trans (((cell_far (p := ⟨gb143, _, none⟩) NB142_143.out _).trans (((cell_far (p := ⟨gb143, _, none⟩) NB142_143.out _).trans (hHeld.2.2.2.2.2.1)))))))))), ((cell_far (p := ⟨gb143, _, none⟩) NB142_143.out _).trans (((cell_far (p := ⟨gb143, _, none⟩) NB142_143.out _).trans (((cell_far (p := ⟨gb143, _, none⟩) NB142_143.out _).trans (((cell_far (p := ⟨gb143, _, none⟩) NB142_143.out _).trans (((cell_far (p := ⟨gb143, _, none⟩) NB142_143.out _).trans (hHeld.2.2.2.2.2.2.1)))))))))), ((cell_far (p := ⟨gb143, _, none⟩) NB142_143.out _).trans (((cell_far (p := ⟨gb143, _, none⟩) NB142_143.out _).trans (((cell_far (p := ⟨gb143, _, none⟩) NB142_143.out _).trans (((cell_far (p := ⟨gb143, _, none⟩) NB142_143.out _).trans (((cell_far (p := ⟨gb143, _, none⟩) NB142_143.out _).trans (hHeld.2.2.2.2.2.2.2.1)))))))))), ((cell_far (p := ⟨gb143, _, none⟩) NB142_143.out _).trans (((cell_far (p := ⟨gb143, _, none⟩) NB142_143.out _).trans (((cell_far (p := ⟨gb143, _, none⟩) NB142_143.out _).trans (((cell_far (p := ⟨gb143, _, none⟩) NB142_143.out _).trans (((cell_far (p := ⟨gb143, _, none⟩) NB142_143.out _).trans (hHeld.2.2.2.2.2.2.2.2.1)))))))))), ((cell_far (p := ⟨gb143, _, none⟩) NB142_143.out _).trans (((cell_far (p := ⟨gb143, _, none⟩) NB142_143.out _).trans (((cell_far (p := ⟨gb143, _, none⟩) NB142_143.out _).trans (((cell_far (p := ⟨gb143, _, none⟩) NB142_143.out _).trans (((cell_far (p := ⟨gb143, _, none⟩) NB142_143.out _).trans (hHeld.2.2.2.2.2.2.2.2.2.1)))))))))), ((cell_far (p := ⟨gb143, _, none⟩) NB142_143.out _).trans (((cell_far (p := ⟨gb143, _, none⟩) NB142_143.out _).trans (((cell_far (p := ⟨gb143, _, none⟩) NB142_143.out _).trans (((cell_far (p := ⟨gb143, _, none⟩) NB142_143.out _).trans (((cell_far (p := ⟨gb143, _, none⟩) NB142_143.out _).trans (hHeld.2.2.2.2.2.2.2.2.2.2.1)))))))))), ((cell_far (p := ⟨gb143, _, none⟩) NB142_143.out _).trans (((cell_far (p := ⟨gb143, _, none⟩) NB142_143.out _).trans (((cell_far (p := ⟨gb143, _, none⟩) NB142_143.out _).trans (((cell_far (p := ⟨gb143, _, none⟩) NB142_143.out _).trans (((cell_far (p := ⟨gb143, _, none⟩) NB142_143.out _).trans (hHeld.2.2.2.2.2.2.2.2.2.2.2.1)))))))))), ((cell_far (p := ⟨gb143, _, none⟩) NB142_143.out _).trans (((cell_far (p := ⟨gb143, _, none⟩) NB142_143.out _).trans (((cell_far (p := ⟨gb143, _, none⟩) NB142_143.out _).trans (((cell_far (p := ⟨gb143, _, none⟩) NB142_143.out _).trans (((cell_far (p := ⟨gb143, _, none⟩) NB142_143.out _).trans (hHeld.2.2.2.2.2.2.2.2.2.2.2.2))))))))))⟩ (fun hHeld => ?_)
  clear hK K
  refine one_ (i := 7) (N := none) #[true, true, true, true, true, true, true, true] rfl rfl (one_of HT_.out (by kernel_rfl)) (by decide) (fun K hK => ?_)
  have hs20 : w9.cell? ⟨gb144, 0, none⟩ = some (.int .i64 0) := (blk_cell BK144.out 0).trans rfl
  have hfs20 := blk_frozen BK144.out 0
  have hns20_0 := NB142_144.out
  have hns20_1 := NB143_144.out
  have hms20_0 := NB144_142.out
  have hms20_1 := NB144_143.out
  have hs22 : w9.cell? ⟨gb144, 1, none⟩ = some (.slice none 0 0) := (blk_cell BK144.out 1).trans rfl
  have hfs22 := blk_frozen BK144.out 1
  have hns22_0 := NB142_144.out
  have hns22_1 := NB143_144.out
  have hms22_0 := NB144_142.out
  have hms22_1 := NB144_143.out
  have hs24 : w9.cell? ⟨gb144, 2, none⟩ = some (.slice none 0 0) := (blk_cell BK144.out 2).trans rfl
  have hfs24 := blk_frozen BK144.out 2
  have hns24_0 := NB142_144.out
  have hns24_1 := NB143_144.out
  have hms24_0 := NB144_142.out
  have hms24_1 := NB144_143.out
  have hs26 : w9.cell? ⟨gb144, 3, none⟩ = some (.slice none 0 0) := (blk_cell BK144.out 3).trans rfl
  have hfs26 := blk_frozen BK144.out 3
  have hns26_0 := NB142_144.out
  have hns26_1 := NB143_144.out
  have hms26_0 := NB144_142.out
  have hms26_1 := NB144_143.out
  have hs28 : w9.cell? ⟨gb144, 4, none⟩ = some (.slice none 0 0) := (blk_cell BK144.out 4).trans rfl
  have hfs28 := blk_frozen BK144.out 4
  have hns28_0 := NB142_144.out
  have hns28_1 := NB143_144.out
  have hms28_0 := NB144_142.out
  have hms28_1 := NB144_143.out
  refine skip_ (w1 := ?_) (by rfl) rfl ?_ ?_
  rotate_left
  · go_simp
    rfl
  refine hK.out _ _ ⟨((cell_far (p := ⟨gb144, _, none⟩) NB142_144.out _).trans (((cell_far (p := ⟨gb144, _, none⟩) NB142_144.out _).trans (((cell_far (p := ⟨gb144, _, none⟩) NB142_144.out _).trans (((cell_far (p := ⟨gb144, _, none⟩) NB142_144.out _).trans (((cell_far (p := ⟨gb144, _, none⟩) NB142_144.out _).trans (hHeld.1)))))))))), ((cell_far (p := ⟨gb144, _, none⟩) NB142_144.out _).trans (((cell_far (p := ⟨gb144, _, none⟩) NB142_144.out _).trans (((cell_far (p := ⟨gb144, _, none⟩) NB142_144.out _).trans (((cell_far (p := ⟨gb144, _, none⟩) NB142_144.out _).trans (((cell_far (p := ⟨gb144, _, none⟩) NB142_144.out _).trans (hHeld.2.1)))))))))), ((cell_far (p := ⟨gb144, _, none⟩) NB142_144.out _).trans (((cell_far (p := ⟨gb144, _, none⟩) NB142_144.out _).trans (((cell_far (p := ⟨gb144, _, none⟩) NB142_144.out _).trans (((cell_far (p := ⟨gb144, _, none⟩) NB142_144.out _).trans (((cell_far (p := ⟨gb144, _, none⟩) NB142_144.out _).trans (hHeld.2.2.1)))))))))), ((cell_far (p := ⟨gb144, _, none⟩) NB142_144.out _).trans (((cell_far (p := ⟨gb144, _, none⟩) NB142_144.out _).trans (((cell_far (p := ⟨gb144, _, none⟩) NB142_144.out _).trans (((cell_far (p := ⟨gb144, _, none⟩) NB142_144.out _).trans (((cell_far (p := ⟨gb144, _, none⟩) NB142_144.out _).trans (hHeld.2.2.2.1)))))))))), ((cell_far (p := ⟨gb144, _, none⟩) NB142_144.out _).trans (((cell_far (p := ⟨gb144, _, none⟩) NB142_144.out _).trans (((cell_far (p := ⟨gb144, _, none⟩) NB142_144.out _).trans (((cell_far (p := ⟨gb144, _, none⟩) NB142_144.out _).trans (((cell_far (p := ⟨gb144, _, none⟩) NB142_144.out _).trans (hHeld.2.2.2.2.1)))))))))), ((cell_far (p := ⟨gb144, _, none⟩) NB142_144.out _).trans (((cell_far (p := ⟨gb144, _, none⟩) NB142_144.out _).trans (((cell_far (p := ⟨gb144, _, none⟩) NB142_144.out _).trans (((cell_far (p := ⟨gb144, _, none⟩) NB142_144.out _).trans (((cell_far (p := ⟨gb144, _, none⟩) NB142_144.out _).trans (hHeld.2.2.2.2.2.1)))))))))), ((cell_far (p := ⟨gb144, _, none⟩) NB142_144.out _).trans (((cell_far (p := ⟨gb144, _, none⟩) NB142_144.out _).trans (((cell_far (p := ⟨gb144, _, none⟩) NB142_144.out _).trans (((cell_far (p := ⟨gb144, _, none⟩) NB142_144.out _).trans (((cell_far (p := ⟨gb144, _, none⟩) NB142_144.out _).trans (hHeld.2.2.2.2.2.2.1)))))))))), ((cell_far (p := ⟨gb144, _, none⟩) NB142_144.out _).trans (((cell_far (p := ⟨gb144, _, none⟩) NB142_144.out _).trans (((cell_far (p := ⟨gb144, _, none⟩) NB142_144.out _).trans (((cell_far (p := ⟨gb144, _, none⟩) NB142_144.out _).trans (((cell_far (p := ⟨gb144, _, none⟩) NB142_144.out _).trans (hHeld.2.2.2.2.2.2.2.1)))))))))), ((cell_far (p := ⟨gb144, _, none⟩) NB142_144.out _).trans (((cell_far (p := ⟨gb144, _, none⟩) NB142_144.out _).trans (((cell_far (p := ⟨gb144, _, none⟩) NB142_144.out _).trans (((cell_far (p := ⟨gb144, _, none⟩) NB142_144.out _).trans (((cell_far (p := ⟨gb144, _, none⟩) NB142_144.out _).trans (hHeld.2.2.2.2.2.2.2.2.1)))))))))), ((cell_far (p := ⟨gb144, _, none⟩) NB142_144.out _).trans (((cell_far (p := ⟨gb144, _, none⟩) NB142_144.out _).trans (((cell_far (p := ⟨gb144, _, none⟩) NB142_144.out _).trans (((cell_far (p := ⟨gb144, _, none⟩) NB142_144.out _).trans (((cell_far (p := ⟨gb144, _, none⟩) NB142_144.out _).trans (hHeld.2.2.2.2.2.2.2.2.2.1)))))))))), ((cell_far (p := ⟨gb144, _, none⟩) NB142_144.out _).trans (((cell_far (p := ⟨gb144, _, none⟩) NB142_144.out _).trans (((cell_far (p := ⟨gb144, _, none⟩) NB142_144.out _).trans (((cell_far (p := ⟨gb144, _, none⟩) NB142_144.out _).trans (((cell_far (p := ⟨gb144, _, none⟩) NB142_144.out _).trans (hHeld.2.2.2.2.2.2.2.2.2.2.1)))))))))), ((cell_far (p := ⟨gb144, _, none⟩) NB142_144.out _).trans (((cell_far (p := ⟨gb144, _, none⟩) NB142_144.out _).trans (((cell_far (p := ⟨gb144, _, none⟩) NB142_144.out _).trans (((cell_far (p := ⟨gb144, _, none⟩) NB142_144.out _).trans (((cell_far (p := ⟨gb144, _, none⟩) NB142_144.out _).trans (hHeld.2.2.2.2.2.2.2.2.2.2.2.1)))))))))), ((cell_far (p := ⟨gb144, _, none⟩) NB142_144.out _).trans (((cell_far (p := ⟨gb144, _, none⟩) NB142_144.out _).trans (((cell_far (p := ⟨gb144, _, none⟩) NB142_144.out _).trans (((cell_far (p := ⟨gb144, _, none⟩) NB142_144.out _).trans (((cell_far (p := ⟨gb144, _, none⟩) NB142_144.out _).trans (hHeld.2.2.2.2.2.2.2.2.2.2.2.2))))))))))⟩ (fun hHeld => ?_)
  clear hK K
  refine done_ (done_of HT_.out (by kernel_rfl)) ?_
  try go_wp2
  refine bodyPost_ret (results_cc rfl _ _ gb143 gb144 27 35 #[.slice Ao10 t145.length co10, .slice Ao12 t148.length co12, .slice Ao14 t151.length co14, .slice Ao16 t154.length co16, .slice Ao18 t157.length co18] #[.int .i64 t160, .slice Ao21 t161.length co21, .slice Ao23 t164.length co23, .slice Ao25 t167.length co25, .slice Ao27 t170.length co27] (0, 0) (0, 0) _ _ rfl (by refine blk_far ?_ NB143_144.out _; refine blk_far ?_ NB143_144.out _; refine blk_far ?_ NB143_144.out _; refine blk_far ?_ NB143_144.out _; refine blk_far ?_ NB143_144.out _; refine blk_put (cs := #[.slice Ao10 t145.length co10, .slice Ao12 t148.length co12, .slice Ao14 t151.length co14, .slice Ao16 t154.length co16, .slice none 0 0]) ?_ 4 _ rfl; refine blk_put (cs := #[.slice Ao10 t145.length co10, .slice Ao12 t148.length co12, .slice Ao14 t151.length co14, .slice none 0 0, .slice none 0 0]) ?_ 3 _ rfl; refine blk_put (cs := #[.slice Ao10 t145.length co10, .slice Ao12 t148.length co12, .slice none 0 0, .slice none 0 0, .slice none 0 0]) ?_ 2 _ rfl; refine blk_put (cs := #[.slice Ao10 t145.length co10, .slice none 0 0, .slice none 0 0, .slice none 0 0, .slice none 0 0]) ?_ 1 _ rfl; refine blk_put (cs := #[.slice none 0 0, .slice none 0 0, .slice none 0 0, .slice none 0 0, .slice none 0 0]) ?_ 0 _ rfl; exact BK143.out) Tryz.underlying27 rfl (by kernel_rfl) rfl (by refine blk_put (cs := #[.int .i64 t160, .slice Ao21 t161.length co21, .slice Ao23 t164.length co23, .slice Ao25 t167.length co25, .slice none 0 0]) ?_ 4 _ rfl; refine blk_put (cs := #[.int .i64 t160, .slice Ao21 t161.length co21, .slice Ao23 t164.length co23, .slice none 0 0, .slice none 0 0]) ?_ 3 _ rfl; refine blk_put (cs := #[.int .i64 t160, .slice Ao21 t161.length co21, .slice none 0 0, .slice none 0 0, .slice none 0 0]) ?_ 2 _ rfl; refine blk_put (cs := #[.int .i64 t160, .slice none 0 0, .slice none 0 0, .slice none 0 0, .slice none 0 0]) ?_ 1 _ rfl; refine blk_put (cs := #[.int .i64 0, .slice none 0 0, .slice none 0 0, .slice none 0 0, .slice none 0 0]) ?_ 0 _ rfl; refine blk_far ?_ NB144_143.out _; refine blk_far ?_ NB144_143.out _; refine blk_far ?_ NB144_143.out _; refine blk_far ?_ NB144_143.out _; refine blk_far ?_ NB144_143.out _; exact BK144.out) Tryz.underlying35 rfl (by kernel_rfl)) rfl ?_
  exact ⟨_, _, _, _, _, _, _, _, _, by first | rfl, by exact Kd.R_mono (Kd.R_far (p := ⟨gb144, 4, none⟩) (Kd.R_far (p := ⟨gb144, 3, none⟩) (Kd.R_far (p := ⟨gb144, 2, none⟩) (Kd.R_far (p := ⟨gb144, 1, none⟩) (Kd.R_far (p := ⟨gb144, 0, none⟩) (Kd.R_far (p := ⟨gb143, 4, none⟩) (Kd.R_far (p := ⟨gb143, 3, none⟩) (Kd.R_far (p := ⟨gb143, 2, none⟩) (Kd.R_far (p := ⟨gb143, 1, none⟩) (Kd.R_far (p := ⟨gb143, 0, none⟩) (Kd.R_types (Kd.R_types HO147.out BK143.out (by decide)) BK144.out (by decide)) (fun _ hk => hk.1.2) (.slice Ao10 t145.length co10)) (fun _ hk => hk.1.2) (.slice Ao12 t148.length co12)) (fun _ hk => hk.1.2) (.slice Ao14 t151.length co14)) (fun _ hk => hk.1.2) (.slice Ao16 t154.length co16)) (fun _ hk => hk.1.2) (.slice Ao18 t157.length co18)) (fun _ hk => hk.2) (.int .i64 t160)) (fun _ hk => hk.2) (.slice Ao21 t161.length co21)) (fun _ hk => hk.2) (.slice Ao23 t164.length co23)) (fun _ hk => hk.2) (.slice Ao25 t167.length co25)) (fun _ hk => hk.2) (.slice Ao27 t170.length co27)) (fun _ hk => trivial), by exact Kd.R_mono (Kd.R_far (p := ⟨gb144, 4, none⟩) (Kd.R_far (p := ⟨gb144, 3, none⟩) (Kd.R_far (p := ⟨gb144, 2, none⟩) (Kd.R_far (p := ⟨gb144, 1, none⟩) (Kd.R_far (p := ⟨gb144, 0, none⟩) (Kd.R_far (p := ⟨gb143, 4, none⟩) (Kd.R_far (p := ⟨gb143, 3, none⟩) (Kd.R_far (p := ⟨gb143, 2, none⟩) (Kd.R_far (p := ⟨gb143, 1, none⟩) (Kd.R_far (p := ⟨gb143, 0, none⟩) (Kd.R_types (Kd.R_types HO150.out BK143.out (by decide)) BK144.out (by decide)) (fun _ hk => hk.1.2) (.slice Ao10 t145.length co10)) (fun _ hk => hk.1.2) (.slice Ao12 t148.length co12)) (fun _ hk => hk.1.2) (.slice Ao14 t151.length co14)) (fun _ hk => hk.1.2) (.slice Ao16 t154.length co16)) (fun _ hk => hk.1.2) (.slice Ao18 t157.length co18)) (fun _ hk => hk.2) (.int .i64 t160)) (fun _ hk => hk.2) (.slice Ao21 t161.length co21)) (fun _ hk => hk.2) (.slice Ao23 t164.length co23)) (fun _ hk => hk.2) (.slice Ao25 t167.length co25)) (fun _ hk => hk.2) (.slice Ao27 t170.length co27)) (fun _ hk => hk.1.1), by exact Kd.R_mono (Kd.R_far (p := ⟨gb144, 4, none⟩) (Kd.R_far (p := ⟨gb144, 3, none⟩) (Kd.R_far (p := ⟨gb144, 2, none⟩) (Kd.R_far (p := ⟨gb144, 1, none⟩) (Kd.R_far (p := ⟨gb144, 0, none⟩) (Kd.R_far (p := ⟨gb143, 4, none⟩) (Kd.R_far (p := ⟨gb143, 3, none⟩) (Kd.R_far (p := ⟨gb143, 2, none⟩) (Kd.R_far (p := ⟨gb143, 1, none⟩) (Kd.R_far (p := ⟨gb143, 0, none⟩) (Kd.R_types (Kd.R_types HO153.out BK143.out (by decide)) BK144.out (by decide)) (fun _ hk => hk.1.2) (.slice Ao10 t145.length co10)) (fun _ hk => hk.1.2) (.slice Ao12 t148.length co12)) (fun _ hk => hk.1.2) (.slice Ao14 t151.length co14)) (fun _ hk => hk.1.2) (.slice Ao16 t154.length co16)) (fun _ hk => hk.1.2) (.slice Ao18 t157.length co18)) (fun _ hk => hk.2) (.int .i64 t160)) (fun _ hk => hk.2) (.slice Ao21 t161.length co21)) (fun _ hk => hk.2) (.slice Ao23 t164.length co23)) (fun _ hk => hk.2) (.slice Ao25 t167.length co25)) (fun _ hk => hk.2) (.slice Ao27 t170.length co27)) (fun _ hk => trivial), by exact Kd.R_mono (Kd.R_far (p := ⟨gb144, 4, none⟩) (Kd.R_far (p := ⟨gb144, 3, none⟩) (Kd.R_far (p := ⟨gb144, 2, none⟩) (Kd.R_far (p := ⟨gb144, 1, none⟩) (Kd.R_far (p := ⟨gb144, 0, none⟩) (Kd.R_far (p := ⟨gb143, 4, none⟩) (Kd.R_far (p := ⟨gb143, 3, none⟩) (Kd.R_far (p := ⟨gb143, 2, none⟩) (Kd.R_far (p := ⟨gb143, 1, none⟩) (Kd.R_far (p := ⟨gb143, 0, none⟩) (Kd.R_types (Kd.R_types HO156.out BK143.out (by decide)) BK144.out (by decide)) (fun _ hk => hk.1.2) (.slice Ao10 t145.length co10)) (fun _ hk => hk.1.2) (.slice Ao12 t148.length co12)) (fun _ hk => hk.1.2) (.slice Ao14 t151.length co14)) (fun _ hk => hk.1.2) (.slice Ao16 t154.length co16)) (fun _ hk => hk.1.2) (.slice Ao18 t157.length co18)) (fun _ hk => hk.2) (.int .i64 t160)) (fun _ hk => hk.2) (.slice Ao21 t161.length co21)) (fun _ hk => hk.2) (.slice Ao23 t164.length co23)) (fun _ hk => hk.2) (.slice Ao25 t167.length co25)) (fun _ hk => hk.2) (.slice Ao27 t170.length co27)) (fun _ hk => trivial), by exact Kd.R_mono (Kd.R_far (p := ⟨gb144, 4, none⟩) (Kd.R_far (p := ⟨gb144, 3, none⟩) (Kd.R_far (p := ⟨gb144, 2, none⟩) (Kd.R_far (p := ⟨gb144, 1, none⟩) (Kd.R_far (p := ⟨gb144, 0, none⟩) (Kd.R_far (p := ⟨gb143, 4, none⟩) (Kd.R_far (p := ⟨gb143, 3, none⟩) (Kd.R_far (p := ⟨gb143, 2, none⟩) (Kd.R_far (p := ⟨gb143, 1, none⟩) (Kd.R_far (p := ⟨gb143, 0, none⟩) (Kd.R_types (Kd.R_types HO159.out BK143.out (by decide)) BK144.out (by decide)) (fun _ hk => hk.1.2) (.slice Ao10 t145.length co10)) (fun _ hk => hk.1.2) (.slice Ao12 t148.length co12)) (fun _ hk => hk.1.2) (.slice Ao14 t151.length co14)) (fun _ hk => hk.1.2) (.slice Ao16 t154.length co16)) (fun _ hk => hk.1.2) (.slice Ao18 t157.length co18)) (fun _ hk => hk.2) (.int .i64 t160)) (fun _ hk => hk.2) (.slice Ao21 t161.length co21)) (fun _ hk => hk.2) (.slice Ao23 t164.length co23)) (fun _ hk => hk.2) (.slice Ao25 t167.length co25)) (fun _ hk => hk.2) (.slice Ao27 t170.length co27)) (fun _ hk => hk.1.1), by exact Kd.R_mono (Kd.R_far (p := ⟨gb144, 4, none⟩) (Kd.R_far (p := ⟨gb144, 3, none⟩) (Kd.R_far (p := ⟨gb144, 2, none⟩) (Kd.R_far (p := ⟨gb144, 1, none⟩) (Kd.R_far (p := ⟨gb144, 0, none⟩) (Kd.R_far (p := ⟨gb143, 4, none⟩) (Kd.R_far (p := ⟨gb143, 3, none⟩) (Kd.R_far (p := ⟨gb143, 2, none⟩) (Kd.R_far (p := ⟨gb143, 1, none⟩) (Kd.R_far (p := ⟨gb143, 0, none⟩) (Kd.R_types (Kd.R_types HO163.out BK143.out (by decide)) BK144.out (by decide)) (fun _ hk => hk.1.2) (.slice Ao10 t145.length co10)) (fun _ hk => hk.1.2) (.slice Ao12 t148.length co12)) (fun _ hk => hk.1.2) (.slice Ao14 t151.length co14)) (fun _ hk => hk.1.2) (.slice Ao16 t154.length co16)) (fun _ hk => hk.1.2) (.slice Ao18 t157.length co18)) (fun _ hk => hk.2) (.int .i64 t160)) (fun _ hk => hk.2) (.slice Ao21 t161.length co21)) (fun _ hk => hk.2) (.slice Ao23 t164.length co23)) (fun _ hk => hk.2) (.slice Ao25 t167.length co25)) (fun _ hk => hk.2) (.slice Ao27 t170.length co27)) (fun _ hk => trivial), by exact Kd.R_mono (Kd.R_far (p := ⟨gb144, 4, none⟩) (Kd.R_far (p := ⟨gb144, 3, none⟩) (Kd.R_far (p := ⟨gb144, 2, none⟩) (Kd.R_far (p := ⟨gb144, 1, none⟩) (Kd.R_far (p := ⟨gb144, 0, none⟩) (Kd.R_far (p := ⟨gb143, 4, none⟩) (Kd.R_far (p := ⟨gb143, 3, none⟩) (Kd.R_far (p := ⟨gb143, 2, none⟩) (Kd.R_far (p := ⟨gb143, 1, none⟩) (Kd.R_far (p := ⟨gb143, 0, none⟩) (Kd.R_types (Kd.R_types HO166.out BK143.out (by decide)) BK144.out (by decide)) (fun _ hk => hk.1.2) (.slice Ao10 t145.length co10)) (fun _ hk => hk.1.2) (.slice Ao12 t148.length co12)) (fun _ hk => hk.1.2) (.slice Ao14 t151.length co14)) (fun _ hk => hk.1.2) (.slice Ao16 t154.length co16)) (fun _ hk => hk.1.2) (.slice Ao18 t157.length co18)) (fun _ hk => hk.2) (.int .i64 t160)) (fun _ hk => hk.2) (.slice Ao21 t161.length co21)) (fun _ hk => hk.2) (.slice Ao23 t164.length co23)) (fun _ hk => hk.2) (.slice Ao25 t167.length co25)) (fun _ hk => hk.2) (.slice Ao27 t170.length co27)) (fun _ hk => trivial), by exact Kd.R_mono (Kd.R_far (p := ⟨gb144, 4, none⟩) (Kd.R_far (p := ⟨gb144, 3, none⟩) (Kd.R_far (p := ⟨gb144, 2, none⟩) (Kd.R_far (p := ⟨gb144, 1, none⟩) (Kd.R_far (p := ⟨gb144, 0, none⟩) (Kd.R_far (p := ⟨gb143, 4, none⟩) (Kd.R_far (p := ⟨gb143, 3, none⟩) (Kd.R_far (p := ⟨gb143, 2, none⟩) (Kd.R_far (p := ⟨gb143, 1, none⟩) (Kd.R_far (p := ⟨gb143, 0, none⟩) (Kd.R_types (Kd.R_types HO169.out BK143.out (by decide)) BK144.out (by decide)) (fun _ hk => hk.1.2) (.slice Ao10 t145.length co10)) (fun _ hk => hk.1.2) (.slice Ao12 t148.length co12)) (fun _ hk => hk.1.2) (.slice Ao14 t151.length co14)) (fun _ hk => hk.1.2) (.slice Ao16 t154.length co16)) (fun _ hk => hk.1.2) (.slice Ao18 t157.length co18)) (fun _ hk => hk.2) (.int .i64 t160)) (fun _ hk => hk.2) (.slice Ao21 t161.length co21)) (fun _ hk => hk.2) (.slice Ao23 t164.length co23)) (fun _ hk => hk.2) (.slice Ao25 t167.length co25)) (fun _ hk => hk.2) (.slice Ao27 t170.length co27)) (fun _ hk => trivial), by exact Kd.R_mono (Kd.R_far (p := ⟨gb144, 4, none⟩) (Kd.R_far (p := ⟨gb144, 3, none⟩) (Kd.R_far (p := ⟨gb144, 2, none⟩) (Kd.R_far (p := ⟨gb144, 1, none⟩) (Kd.R_far (p := ⟨gb144, 0, none⟩) (Kd.R_far (p := ⟨gb143, 4, none⟩) (Kd.R_far (p := ⟨gb143, 3, none⟩) (Kd.R_far (p := ⟨gb143, 2, none⟩) (Kd.R_far (p := ⟨gb143, 1, none⟩) (Kd.R_far (p := ⟨gb143, 0, none⟩) (Kd.R_types (Kd.R_types HO172.out BK143.out (by decide)) BK144.out (by decide)) (fun _ hk => hk.1.2) (.slice Ao10 t145.length co10)) (fun _ hk => hk.1.2) (.slice Ao12 t148.length co12)) (fun _ hk => hk.1.2) (.slice Ao14 t151.length co14)) (fun _ hk => hk.1.2) (.slice Ao16 t154.length co16)) (fun _ hk => hk.1.2) (.slice Ao18 t157.length co18)) (fun _ hk => hk.2) (.int .i64 t160)) (fun _ hk => hk.2) (.slice Ao21 t161.length co21)) (fun _ hk => hk.2) (.slice Ao23 t164.length co23)) (fun _ hk => hk.2) (.slice Ao25 t167.length co25)) (fun _ hk => hk.2) (.slice Ao27 t170.length co27)) (fun _ hk => trivial), by repeat (first | (with_reducible first | exact HB.out | refine below_set ?_ GE143.out | refine below_set ?_ GE144.out))⟩

/-! ### proofmarkref27_Rows: function 8 -/
def proofmarkref27_Rows.l0 : Nat → List (List Int) → List (List Int) → Int → Option ((List (List Int)))
  | 0, _, _, _ => none
  | k + 1, x0, x3, x4 => if x4 < (x0.length : Int) then (if x4 < 30 then ((some (([] : List Int) : List Int)).bind fun y176 => (if 0 ≤ x4 then (if 0 ≤ (mn ((rd_L12 x0 x4).length : Int) 24) then (if (mn ((rd_L12 x0 x4).length : Int) 24) ≤ ((rd_L12 x0 x4).length : Int) then (if y176.length + ((rd_L12 x0 x4).take ((mn ((rd_L12 x0 x4).length : Int) 24) : Int).toNat).length < 17592186044416 then (if x3.length < 5864062014805 then (proofmarkref27_Rows.l0 k x0 (x3 ++ [(y176 ++ ((rd_L12 x0 x4).take ((mn ((rd_L12 x0 x4).length : Int) 24) : Int).toNat))]) (wrap64 (x4 + 1))) else (none)) else (none)) else (none)) else (none)) else (none))) else (some x3)) else (some x3)
def proofmarkref27_Rows.f (k : Nat) (l0 : List (List Int)) : Option ((List (List Int))) := proofmarkref27_Rows.l0 k l0 (([] : List (List Int))) 0
theorem proofmarkref27_Rows.mono_l : ∀ k, (∀ y0 y1 y2, LeO (proofmarkref27_Rows.l0 k y0 y1 y2) (proofmarkref27_Rows.l0 (k + 1) y0 y1 y2))
  | 0 => fun _ _ _ r h => by simp [proofmarkref27_Rows.l0] at h
  | k + 1 => by
    have ih0 := proofmarkref27_Rows.mono_l k
    · intro y0 y1 y2
      unfold proofmarkref27_Rows.l0
      repeat' first
      | (with_reducible exact ih0 _ _ _)
      | (with_reducible exact LeO.refl _)
      | (with_reducible exact LeO.none _)
      | (with_reducible refine LeO.ite ?_ ?_)
      | (with_reducible refine LeO.bind ?_ (fun _ => ?_))
      | exact ih0 _ _ _
      | exact LeO.none _
      | refine LeO.ite ?_ ?_
      | refine LeO.bind ?_ (fun _ => ?_)
theorem proofmarkref27_Rows.mono : ∀ a0 k, LeO (proofmarkref27_Rows.f k a0) (proofmarkref27_Rows.f (k + 1) a0) := by
  intro a0 k
  have ih0 := proofmarkref27_Rows.mono_l k
  unfold proofmarkref27_Rows.f
  repeat' first
      | (with_reducible exact ih0 _ _ _)
      | (with_reducible exact LeO.refl _)
      | (with_reducible exact LeO.none _)
      | (with_reducible refine LeO.ite ?_ ?_)
      | (with_reducible refine LeO.bind ?_ (fun _ => ?_))
      | exact ih0 _ _ _
      | exact LeO.none _
      | refine LeO.ite ?_ ?_
      | refine LeO.bind ?_ (fun _ => ?_)
def proofmarkref27_Rows.T5 : Bool × List (List Nat × List Nat) := (true, [([], []), ([], []), ([], []), ([], []), ([2, 3], [2, 3]), ([4], [4]), ([], []), ([], []), ([6, 7], [6, 7]), ([8], [8]), ([9], [9]), ([10], [10]), ([5, 11], [5, 11]), ([1, 12], [1, 12]), ([13], [13]), ([0, 14, 13], [0, 14]), ([15, 15, 0, 1, 2, 3, 4, 5, 6, 7, 8, 9, 10, 11, 12, 13, 14, 15], [0, 15])])
def proofmarkref27_Rows.B5 : List Nat := [0, 0, 0, 0, 12, 28, 0, 0, 192, 448, 960, 1984, 4092, 8190, 16382, 32767, 65535]
theorem proofmarkref27_Rows.tab5 : rtab .any (opsOf Tryz.f8 5) = proofmarkref27_Rows.T5 := by kernel_rfl
theorem proofmarkref27_Rows.bits5 : waitsOk proofmarkref27_Rows.T5.2 proofmarkref27_Rows.B5 = true := by kernel_rfl
set_option maxHeartbeats 8000000 in
set_option maxRecDepth 100000 in
theorem proofmarkref27_Rows.calls (k : Nat) (A0 : Option Addr) (c0 : Nat) (l0 : List (List Int)) (r : List (List Int)) (w : World) (hr0 : Kd.C (Kd.slice 3 (Kd.int .i64)) w A0 l0.length l0) (hc0 : l0.length ≤ c0) (h : proofmarkref27_Rows.f k l0 = some r) :
    Calls Tryz.prog 8 #[.slice A0 l0.length c0] w fun e w' => ∃ v0_ : Value, e = .returned (v0_) ∧ Kd.S (Kd.slice 3 (Kd.int .i64)) 37 w' w.heap.size (fun _ => True) v0_ r ∧ Below w.heap.size w w' := by
  have HR0 := Aside0.mk hr0
  have HC0 := Aside0.mk hc0
  clear hr0 hc0
  have HB := Aside0.mk (Below.refl w.heap.size w)
  have H : (proofmarkref27_Rows.l0 k l0 (([] : List (List Int))) 0) = some r := h
  clear h
  obtain ⟨y173, hy173⟩ : ∃ y_ : List (List Int), y_ = (([] : List (List Int))) := ⟨_, rfl⟩
  replace H : (proofmarkref27_Rows.l0 k l0 y173 0) = some r := by first | (rw [hy173]; with_reducible exact H)
  have Ny173 := Aside0.mk hy173
  clear hy173
  have H' := Aside0.mk H
  clear H
  go_enter Tryz.func8, Tryz.ntmps8
  go_wp2_with (first | ((with_reducible refine gate_dst (N := 5) rfl ?_); refine Kd.S_lit (Kd.slice 3 (Kd.int .i64)) _ 37 ?hg (N := 5) ?hd (xs := ([] : List (List Int))) (inner := []) (ok := fun _ => True) (okp := fun _ => True) ?hr ?hp (fun _ hk => hk) trivial (Below.refl _ _) (Nat.le_refl _) (by simp) ?_; (case hd => rfl); (case hg => rfl); (case hr => first | (go_simp; done)); (case hp => exact (Reps.none _ _)); intro v174 w2 ho3 hb hg_ hnew_; clear hg_ hnew_; (first | rw [← Ny173.out] at ho3); have n0_ := Aside0.mk (Kd.S_lower ho3 (below_size HB.out)); have n1_ := Aside0.mk (below_step HB.out hb); clear HB; have HO175 := n0_; have HB := n1_; clear n0_ n1_; clear hb ho3))
  try simp only [Act.put, List.setIfInBounds_toArray, List.set_cons_succ, List.set_cons_zero]
  go_loopg [3, 4] k (fun kq v3 v4 w' => ∃ (x3_1 : List (List Int)) (x4_1 : Int), v4 = .int .i64 x4_1 ∧ Aside0 (proofmarkref27_Rows.l0 kq l0 x3_1 x4_1 = some r) ∧ Aside0 (kq ≤ k) ∧ Aside0 (Kd.S (Kd.slice 3 (Kd.int .i64)) 37 w' w.heap.size (fun _ => True) v3 x3_1) ∧ Aside0 (Below w.heap.size w w'))
  case atStart => exact ⟨(y173), (0), rfl, H', ⟨Nat.le_refl _⟩, ⟨by exact HO175.out⟩, ⟨by exact HB.out⟩⟩
  case round =>
    clear H'
    try clear p2
    obtain ⟨x3_1, x4_1, rfl, HA, HK1, HO_3, HB⟩ := hrel
    cases gk with
    | zero => exact absurd HA.out (by simp [proofmarkref27_Rows.l0])
    | succ k1 =>
      have H := HA.out
      clear HA
      simp only [proofmarkref27_Rows.l0] at H
      by_cases c4 : x4_1 < (l0.length : Int)
      · rw [if_pos c4] at H
        have c4b0 : decide (x4_1 < (l0.length : Int)) = true := decide_eq_true c4
        clear c4
        by_cases c5 : x4_1 < 30
        · rw [if_pos c5] at H
          have c5b0 : decide (x4_1 < 30) = true := decide_eq_true c5
          clear c5
          obtain ⟨y176, hy176⟩ : ∃ y_ : List Int, y_ = (([] : List Int)) := ⟨_, rfl⟩
          replace H : (if 0 ≤ x4_1 then (if 0 ≤ (mn ((rd_L12 l0 x4_1).length : Int) 24) then (if (mn ((rd_L12 l0 x4_1).length : Int) 24) ≤ ((rd_L12 l0 x4_1).length : Int) then (if y176.length + ((rd_L12 l0 x4_1).take ((mn ((rd_L12 l0 x4_1).length : Int) 24) : Int).toNat).length < 17592186044416 then (if x3_1.length < 5864062014805 then (proofmarkref27_Rows.l0 k1 l0 (x3_1 ++ [(y176 ++ ((rd_L12 l0 x4_1).take ((mn ((rd_L12 l0 x4_1).length : Int) 24) : Int).toNat))]) (wrap64 (x4_1 + 1))) else (none)) else (none)) else (none)) else (none)) else (none)) = some r := by first | (have H2_ := (Option.bind_some _ _).symm.trans H; rw [hy176]; with_reducible exact H2_)
          have Ny176 := Aside0.mk hy176
          clear hy176
          by_cases c6 : 0 ≤ x4_1
          · rw [if_pos c6] at H
            have c6b0 : decide (0 ≤ x4_1) = true := decide_eq_true c6
            clear c6
            obtain ⟨ji7, hji7⟩ : ∃ j_ : Int, (mn ((rd_L12 l0 x4_1).length : Int) 24) = j_ := ⟨_, rfl⟩
            replace H : (if 0 ≤ (ji7) then (if (ji7) ≤ ((rd_L12 l0 x4_1).length : Int) then (if y176.length + ((rd_L12 l0 x4_1).take ((ji7) : Int).toNat).length < 17592186044416 then (if x3_1.length < 5864062014805 then (proofmarkref27_Rows.l0 k1 l0 (x3_1 ++ [(y176 ++ ((rd_L12 l0 x4_1).take ((ji7) : Int).toNat))]) (wrap64 (x4_1 + 1))) else (none)) else (none)) else (none)) else (none)) = some r := by first | (rw [hji7] at H; exact H)
            have hji7_ : (if 24 < ((rd_L12 l0 x4_1).length : Int) then 24 else ((rd_L12 l0 x4_1).length : Int)) = ji7 := hji7
            by_cases c8 : 0 ≤ (ji7)
            · rw [if_pos c8] at H
              have c8b0 := eq_true c8
              have c8b1 : decide (0 ≤ (ji7)) = true := decide_eq_true c8
              clear c8
              by_cases c9 : (ji7) ≤ ((rd_L12 l0 x4_1).length : Int)
              · rw [if_pos c9] at H
                have c9b0 := eq_true c9
                have c9b1 : decide ((ji7) ≤ ((rd_L12 l0 x4_1).length : Int)) = true := decide_eq_true c9
                clear c9
                by_cases c10 : y176.length + ((rd_L12 l0 x4_1).take ((ji7) : Int).toNat).length < 17592186044416
                · rw [if_pos c10] at H
                  have LMc10 := Aside0.mk c10
                  clear c10
                  obtain ⟨y182, hy182⟩ : ∃ y_ : List Int, y_ = (y176 ++ ((rd_L12 l0 x4_1).take ((ji7) : Int).toNat)) := ⟨_, rfl⟩
                  replace H : (if x3_1.length < 5864062014805 then (proofmarkref27_Rows.l0 k1 l0 (x3_1 ++ [y182]) (wrap64 (x4_1 + 1))) else (none)) = some r := by first | (rw [hy182]; with_reducible exact H)
                  have Ny182 := Aside0.mk hy182
                  clear hy182
                  by_cases c11 : x3_1.length < 5864062014805
                  · rw [if_pos c11] at H
                    have LMc11 := Aside0.mk c11
                    clear c11
                    obtain ⟨y185, hy185⟩ : ∃ y_ : List (List Int), y_ = (x3_1 ++ [y182]) := ⟨_, rfl⟩
                    replace H : (proofmarkref27_Rows.l0 k1 l0 y185 (wrap64 (x4_1 + 1))) = some r := by first | (rw [hy185]; with_reducible exact H)
                    have Ny185 := Aside0.mk hy185
                    clear hy185
                    have H' := Aside0.mk H
                    clear H
                    try go_wp2
                    have n0_ := Aside0.mk (Kd.S_drew HO_3.out)
                    have n1_ := Aside0.mk (below_drew1 HB.out)
                    clear HO_3
                    clear HB
                    have HO_3 := n0_
                    have HB := n1_
                    clear n0_ n1_
                    have p179 : 0 ≤ (x4_1 : Int) := of_decide_eq_true (by first | (with_reducible assumption))
                    have q179 : x4_1 < (l0.length : Int) := of_decide_eq_true (by first | (with_reducible assumption))
                    obtain ⟨ad179, A179_0, c179_0, e179, hx179_0, hl179_0, hi179_0⟩ := at_L12 HR0.out x4_1 p179 q179
                    have hw179_0 := hx179_0
                    cases e179
                    replace hx179_0 := (HB.out.cell (World.block_lt_of_cell? w _ hx179_0)).trans hx179_0
                    have HR179_0 := Aside0.mk hi179_0
                    have HC179_0 := Aside0.mk hl179_0
                    clear hi179_0 hl179_0
                    replace p179 := eq_true p179
                    replace q179 := eq_true q179
                    have p180 : 0 ≤ (x4_1 : Int) := of_decide_eq_true (by first | (with_reducible assumption))
                    have q180 : x4_1 < (l0.length : Int) := of_decide_eq_true (by first | (with_reducible assumption))
                    obtain ⟨ad180, A180_0, c180_0, e180, hx180_0, hl180_0, hi180_0⟩ := at_L12 HR0.out x4_1 p180 q180
                    have hw180_0 := hx180_0
                    obtain rfl : ad179 = ad180 := (by injection e180)
                    replace hx180_0 := (HB.out.cell (World.block_lt_of_cell? w _ hx180_0)).trans hx180_0
                    have HR180_0 := Aside0.mk hi180_0
                    have HC180_0 := Aside0.mk hl180_0
                    clear hi180_0 hl180_0
                    replace p180 := eq_true p180
                    replace q180 := eq_true q180
                    have ea_ := Option.some.inj (hx179_0.symm.trans hx180_0)
                    injection ea_ with ea_ en_ ec_
                    subst ea_
                    subst ec_
                    clear en_
                    obtain ⟨i013, hi013, _, hsz13, _⟩ := info_parts info3
                    obtain ⟨hcut13, hA13, hC13⟩ := print_take_of (P := Tryz.prog) (Value.int .i64) 0 37 3 .i64 Tryz.underlying37 hi013 hsz13 A179_0 c179_0 (rd_L12 l0 x4_1) (ji7) (of_decide_eq_true (by first | (with_reducible assumption))) (of_decide_eq_true (by first | (with_reducible assumption))) HC179_0.out
                    have HR181 := Aside0.mk (Kd.C_of_reads (h1 := fun _ => rfl) (hA13 _ (Kd.reads_of_C HR179_0.out)))
                    have HC181 := Aside0.mk hC13
                    clear hA13 hC13 hi013 hsz13
                    refine start_ (n := 17) (S := fun w' => w'.cell? (ad179.add (x4_1).toNat) = some (.slice A179_0 (rd_L12 l0 x4_1).length c179_0) ∧ w'.cell? (ad179.add (x4_1).toNat) = some (.slice A179_0 (rd_L12 l0 x4_1).length c179_0)) (ds := []) #[false, false, false, false, false, false, false, false, false, false, false, false, false, false, false, false, false] (by kernel_rfl) rfl rfl ⟨((HB.out.cell (World.block_lt_of_cell? w _ hw179_0)).trans hw179_0), ((HB.out.cell (World.block_lt_of_cell? w _ hw180_0)).trans hw180_0)⟩ (fun hHeld => ?_); refine with_tabW proofmarkref27_Rows.tab5 proofmarkref27_Rows.bits5 (fun HT_ HW_ => ?_)
                    generalize wr.drew = w12 at HO_3 HB HR179_0 HR180_0 HR181 hx179_0 hx180_0 hHeld ⊢
                    refine pure_ (i := 0) (N := some 16) (v := ?_) (a' := ?_) #[true, false, false, false, false, false, false, false, false, false, false, false, false, false, false, false, false] rfl rfl (any_of HT_.out (by kernel_rfl)) (fun _ _ _ h => h) (Or.inl ⟨by rfl, ?_⟩) ?_ ?_
                    rotate_left
                    · intro w'
                      go_simp
                      with_reducible rfl
                    rotate_left
                    · simp only [Act.put, List.setIfInBounds_toArray, List.set_cons_zero, List.set_cons_succ, i64_w, i32_w]
                      rfl
                    refine pure_ (i := 2) (N := some 18) (v := ?_) (a' := ?_) #[true, false, true, false, false, false, false, false, false, false, false, false, false, false, false, false, false] rfl rfl (any_of HT_.out (by kernel_rfl)) (fun _ _ _ h => h) (Or.inl ⟨by rfl, ?_⟩) ?_ ?_
                    rotate_left
                    · intro w'
                      go_simp
                      with_reducible rfl
                    rotate_left
                    · simp only [Act.put, List.setIfInBounds_toArray, List.set_cons_zero, List.set_cons_succ, i64_w, i32_w]
                      rfl
                    refine pure_ (i := 3) (N := some 19) (v := ?_) (a' := ?_) #[true, false, true, true, false, false, false, false, false, false, false, false, false, false, false, false, false] rfl rfl (any_of HT_.out (by kernel_rfl)) (fun _ _ _ h => h) (Or.inl ⟨by rfl, ?_⟩) ?_ ?_
                    rotate_left
                    · intro w'
                      go_simp
                      with_reducible rfl
                    rotate_left
                    · simp only [Act.put, List.setIfInBounds_toArray, List.set_cons_zero, List.set_cons_succ, i64_w, i32_w]
                      rfl
                    refine pure_ (i := 4) (N := some 20) (v := ?_) (a' := ?_) #[true, false, true, true, true, false, false, false, false, false, false, false, false, false, false, false, false] rfl rfl (any_of HT_.out (by kernel_rfl)) (fun _ _ _ h => h) (Or.inl ⟨by rfl, ?_⟩) ?_ ?_
                    rotate_left
                    · intro w'
                      go_simp
                      with_reducible rfl
                    rotate_left
                    · simp only [Act.put, List.setIfInBounds_toArray, List.set_cons_zero, List.set_cons_succ, i64_w, i32_w]
                      rfl
                    refine pure_ (i := 6) (N := some 22) (v := ?_) (a' := ?_) #[true, false, true, true, true, false, true, false, false, false, false, false, false, false, false, false, false] rfl rfl (any_of HT_.out (by kernel_rfl)) (fun _ _ _ h => h) (Or.inl ⟨by rfl, ?_⟩) ?_ ?_
                    rotate_left
                    · intro w'
                      go_simp
                      with_reducible rfl
                    rotate_left
                    · simp only [Act.put, List.setIfInBounds_toArray, List.set_cons_zero, List.set_cons_succ, i64_w, i32_w]
                      rfl
                    refine pure_ (i := 7) (N := some 23) (v := ?_) (a' := ?_) #[true, false, true, true, true, false, true, true, false, false, false, false, false, false, false, false, false] rfl rfl (any_of HT_.out (by kernel_rfl)) (fun _ _ _ h => h) (Or.inl ⟨by rfl, ?_⟩) ?_ ?_
                    rotate_left
                    · intro w'
                      go_simp
                      with_reducible rfl
                    rotate_left
                    · simp only [Act.put, List.setIfInBounds_toArray, List.set_cons_zero, List.set_cons_succ, i64_w, i32_w]
                      rfl
                    refine pure_ (i := 8) (N := some 24) (v := ?_) (a' := ?_) #[true, false, true, true, true, false, true, true, true, false, false, false, false, false, false, false, false] rfl rfl (any_of HT_.out (by kernel_rfl)) (fun _ _ _ h => h) (Or.inl ⟨by rfl, ?_⟩) ?_ ?_
                    rotate_left
                    · intro w'
                      go_simp
                      with_reducible rfl
                    rotate_left
                    · simp only [Act.put, List.setIfInBounds_toArray, List.set_cons_zero, List.set_cons_succ, i64_w, i32_w]
                      rfl
                    refine take_ (i := 5) (N := some 21) (v := ?_) (a' := ?_) #[true, false, true, true, true, true, true, true, true, false, false, false, false, false, false, false, false] rfl rfl (take_ofW HT_.out HW_.out (by kernel_rfl)) (fun _ _ _ h => h) (Or.inl ⟨by rfl, ?_⟩) hHeld ?_ ?_
                    rotate_left
                    · rintro w' ⟨s0, s1⟩
                      go_simp
                      with_reducible rfl
                    rotate_left
                    · simp only [Act.put, List.setIfInBounds_toArray, List.set_cons_zero, List.set_cons_succ, i64_w, i32_w]
                      rfl
                    refine take_ (i := 9) (N := some 25) (v := ?_) (a' := ?_) #[true, false, true, true, true, true, true, true, true, true, false, false, false, false, false, false, false] rfl rfl (take_ofW HT_.out HW_.out (by kernel_rfl)) (fun _ _ _ h => h) (Or.inl ⟨by rfl, ?_⟩) hHeld ?_ ?_
                    rotate_left
                    · rintro w' ⟨s0, s1⟩
                      go_simp
                      with_reducible rfl
                    rotate_left
                    · simp only [Act.put, List.setIfInBounds_toArray, List.set_cons_zero, List.set_cons_succ, i64_w, i32_w]
                      rfl
                    refine pure_ (i := 10) (N := some 26) (v := ?_) (a' := ?_) #[true, false, true, true, true, true, true, true, true, true, true, false, false, false, false, false, false] rfl rfl (any_of HT_.out (by kernel_rfl)) (fun _ _ _ h => h) (Or.inl ⟨by rfl, ?_⟩) ?_ ?_
                    rotate_left
                    · intro w'
                      go_simp
                      with_reducible rfl
                    rotate_left
                    · simp only [Act.put, List.setIfInBounds_toArray, List.set_cons_zero, List.set_cons_succ, i64_w, i32_w]
                      rfl
                    refine pure_ (i := 11) (N := some 27) (v := ?_) (a' := ?_) #[true, false, true, true, true, true, true, true, true, true, true, true, false, false, false, false, false] rfl rfl (any_of HT_.out (by kernel_rfl)) (fun _ _ _ h => h) (Or.inl ⟨by rfl, ?_⟩) ?_ ?_
                    rotate_left
                    · intro w'
                      go_simp
                      with_reducible rfl
                    rotate_left
                    · simp only [Act.put, List.setIfInBounds_toArray, List.set_cons_zero, List.set_cons_succ, i64_w, i32_w]
                      rfl
                    refine pure_ (i := 12) (N := some 28) (v := ?_) (a' := ?_) #[true, false, true, true, true, true, true, true, true, true, true, true, true, false, false, false, false] rfl rfl (any_of HT_.out (by kernel_rfl)) (fun _ _ _ h => h) (Or.inl ⟨by rfl, ?_⟩) ?_ ?_
                    rotate_left
                    · intro w'
                      go_simp
                      with_reducible rfl
                    rotate_left
                    · simp only [Act.put, List.setIfInBounds_toArray, List.set_cons_zero, List.set_cons_succ, i64_w, i32_w]
                      rfl
                    refine one_ (i := 1) (N := some 17) #[true, true, true, true, true, true, true, true, true, true, true, true, true, false, false, false, false] rfl rfl (one_of HT_.out (by kernel_rfl)) (by decide) (fun K hK => ?_)
                    refine Kd.R_lit_step (Kd.int .i64) _ 3 ?hg (N := 17) ?hd (xs := ([] : List Int)) (inner := []) (ok := fun _ => True) (okp := fun _ => True) ?hr ?hp (fun _ hk => hk) trivial (Below.refl _ _) (Nat.le_refl _) (by simp) ?_; (case hd => rfl); (case hg => rfl); (case hr => first | (go_simp; done)); (case hp => exact (Reps.none _ _))
                    intro v177 w14 ho15 hb hg_ hnew_
                    clear hg_ hnew_
                    (first | rw [← Ny176.out] at ho15)
                    have n0_ := Aside0.mk (Kd.S_elder' HO_3.out (Kd.R_base ho15) hb)
                    have n1_ := Aside0.mk (Kd.R_lower ho15 (below_size HB.out))
                    have n2_ := Aside0.mk (below_step HB.out hb)
                    clear HO_3
                    clear HB
                    have HO_3 := n0_
                    have HO178 := n1_
                    have HB := n2_
                    clear n0_ n1_ n2_
                    clear hb ho15
                    refine hK.out _ _ ⟨((HB.out.cell (World.block_lt_of_cell? w _ hw179_0)).trans hw179_0), ((HB.out.cell (World.block_lt_of_cell? w _ hw180_0)).trans hw180_0)⟩ (fun hHeld => ?_)
                    clear hK K
                    refine norm_ (a' := ?_) ?_ ?_
                    rotate_left
                    · show Act.put _ (some 17) _ = _
                      simp only [Act.put, List.setIfInBounds_toArray, List.set_cons_zero, List.set_cons_succ, i64_w, i32_w]
                      rfl
                    refine one_ (i := 13) (N := some 29) #[true, true, true, true, true, true, true, true, true, true, true, true, true, true, false, false, false] rfl rfl (one_of HT_.out (by kernel_rfl)) (by decide) (fun K hK => ?_)
                    refine Kd.R_append_rows_step (Kd.int .i64) (w0 := w) w.heap.size (by rfl) (.tmp 17) (.tmp 28) 37 3 (.int .i64 0) 8 rfl Tryz.underlying37 info3 rfl (by decide) (by omega) v177 y176 ((rd_L12 l0 x4_1).take ((ji7) : Int).toNat) _ _ _ (fun _ => True) (fun _ => False) rfl rfl ?aO ?aR (fun _ _ h => h) (fun _ h => h.elim) ?aF ?aB ?aS ?aL ?_
                    (case aR => first | (have q_ := (Kd.C_below HR181.out HB.out); rw [show ((rd_L12 l0 x4_1).take ((ji7) : Int).toNat).length = (ji7).toNat from (by rw [List.length_take]; have h_ : ((ji7) : Int) ≤ ((rd_L12 l0 x4_1).length : Int) := of_decide_eq_true (by first | (with_reducible assumption)); omega)] at q_; exact q_))
                    (case aB => exact HB.out)
                    (case aF => exact (fun _ _ => trivial))
                    (case aO => exact HO178.out)
                    (case aS => exact (below_size HB.out))
                    (case aL => have := LMc10.out; have hlx_ := (show ((rd_L12 l0 x4_1).take ((ji7) : Int).toNat).length = (ji7).toNat from (by rw [List.length_take]; have h_ : ((ji7) : Int) ≤ ((rd_L12 l0 x4_1).length : Int) := of_decide_eq_true (by first | (with_reducible assumption)); omega)); omega)
                    intro v183 w16 ho hb hg hat
                    rw [← Ny182.out] at ho
                    have n0_ := Aside0.mk (Kd.S_after (ok := (fun _ => True)) HO_3.out hg hat)
                    have n1_ := Aside0.mk (hb)
                    have n2_ := Aside0.mk (ho)
                    clear HO_3
                    clear HB
                    clear HO178
                    have HO_3 := n0_
                    have HB := n1_
                    have HO184 := n2_
                    clear n0_ n1_ n2_
                    clear ho hb hg hat
                    obtain ⟨Ao18, co18, eo18⟩ := Kd.R_slice HO184.out
                    (first | subst eo18)
                    refine hK.out _ _ ⟨((HB.out.cell (World.block_lt_of_cell? w _ hw179_0)).trans hw179_0), ((HB.out.cell (World.block_lt_of_cell? w _ hw180_0)).trans hw180_0)⟩ (fun hHeld => ?_)
                    clear hK K
                    refine norm_ (a' := ?_) ?_ ?_
                    rotate_left
                    · show Act.put _ (some 29) _ = _
                      simp only [Act.put, List.setIfInBounds_toArray, List.set_cons_zero, List.set_cons_succ, i64_w, i32_w]
                      rfl
                    refine one_ (i := 14) (N := some 30) #[true, true, true, true, true, true, true, true, true, true, true, true, true, true, true, false, false] rfl rfl (one_of HT_.out (by kernel_rfl)) (by decide) (fun K hK => ?_)
                    refine value_ (w1 := ?_) (v := ?_) (by rfl) rfl ?_ ?_
                    rotate_left 2
                    · go_simp
                      constructor
                      · rfl
                      · rfl
                    refine hK.out _ _ ⟨(World.cell?_alloc_lt _ _ _ (World.block_lt_of_cell? _ _ (((HB.out.cell (World.block_lt_of_cell? w _ hw179_0)).trans hw179_0)))).trans (((HB.out.cell (World.block_lt_of_cell? w _ hw179_0)).trans hw179_0)), (World.cell?_alloc_lt _ _ _ (World.block_lt_of_cell? _ _ (((HB.out.cell (World.block_lt_of_cell? w _ hw180_0)).trans hw180_0)))).trans (((HB.out.cell (World.block_lt_of_cell? w _ hw180_0)).trans hw180_0))⟩ (fun hHeld => ?_)
                    clear hK K
                    refine norm_ (a' := ?_) ?_ ?_
                    rotate_left
                    · show Act.put _ (some 30) _ = _
                      simp only [Act.put, List.setIfInBounds_toArray, List.set_cons_zero, List.set_cons_succ, i64_w, i32_w]
                      rfl
                    refine one_ (i := 15) (N := some 31) #[true, true, true, true, true, true, true, true, true, true, true, true, true, true, true, true, false] rfl rfl (one_of HT_.out (by kernel_rfl)) (by decide) (fun K hK => ?_)
                    refine Kd.S_append_step (Kd.slice 3 (Kd.int .i64)) (w0 := w) w.heap.size (by rfl) (.tmp 16) (.tmp 30) 36 37 (.slice none 0 0) 24 rfl Tryz.underlying36 info37 rfl (by decide) (by omega) u3 x3_1 y182 [.slice Ao18 y182.length co18] (fun _ => True) (fun k_ => some k_ = (.slice Ao18 y182.length co18 : Value).ownBlock) rfl rfl ?aP (fun k_ hk_ => ((Kd.R_mono (ok' := fun k_ => ((fun _ => True)) k_ ∧ some k_ ≠ (u3 : Value).ownBlock) (Kd.R_apart' (HO184.out) (Kd.S_typed HO_3.out) (by decide)) (fun k_ hk => ⟨trivial, hk.2⟩))).1 k_ hk_.symm) ?aF ?aO ?aB ?aS ?aL ?_
                    (case aP => exact Kd.M_row (Kd.R_mono (Kd.R_tight rfl (Kd.R_mono (ok' := fun k_ => ((fun _ => True)) k_ ∧ some k_ ≠ (u3 : Value).ownBlock) (Kd.R_apart' (HO184.out) (Kd.S_typed HO_3.out) (by decide)) (fun k_ hk => ⟨trivial, hk.2⟩))) (fun _ h_ => h_)))
                    (case aB => exact HB.out)
                    (case aF => exact (fun _ _ => trivial))
                    (case aO => exact (by exact Kd.S_mono HO_3.out (fun k_ hk => ⟨trivial, fun e_ => hk.2 e_⟩)))
                    (case aS => exact (below_size HB.out))
                    (case aL => have := LMc11.out; omega)
                    intro v186 w17 ho hb hg hat
                    rw [← Ny185.out] at ho
                    have n0_ := Aside0.mk (hb)
                    have n1_ := Aside0.mk (ho)
                    clear HB
                    clear HO_3
                    clear HO184
                    have HB := n0_
                    have HO187 := n1_
                    clear n0_ n1_
                    clear ho hb hg hat
                    refine hK.out _ _ ⟨((HB.out.cell (World.block_lt_of_cell? w _ hw179_0)).trans hw179_0), ((HB.out.cell (World.block_lt_of_cell? w _ hw180_0)).trans hw180_0)⟩ (fun hHeld => ?_)
                    clear hK K
                    refine norm_ (a' := ?_) ?_ ?_
                    rotate_left
                    · show Act.put _ (some 31) _ = _
                      simp only [Act.put, List.setIfInBounds_toArray, List.set_cons_zero, List.set_cons_succ, i64_w, i32_w]
                      rfl
                    refine pure_ (i := 16) (N := some 3) (v := ?_) (a' := ?_) #[true, true, true, true, true, true, true, true, true, true, true, true, true, true, true, true, true] rfl rfl (any_of HT_.out (by kernel_rfl)) (fun _ _ _ h => h) (Or.inl ⟨by rfl, ?_⟩) ?_ ?_
                    rotate_left
                    · intro w'
                      go_simp
                      with_reducible rfl
                    rotate_left
                    · simp only [Act.put, List.setIfInBounds_toArray, List.set_cons_zero, List.set_cons_succ, i64_w, i32_w]
                      rfl
                    refine done_ (done_of HT_.out (by kernel_rfl)) ?_
                    try go_wp2
                    go_roundg k1
                    case measure => have := HK1.out; omega
                    case rel => exact ⟨(y185), (wrap64 (x4_1 + 1)), rfl, H', ⟨by have := HK1.out; omega⟩, ⟨by exact HO187.out⟩, ⟨by exact HB.out⟩⟩
                  · rw [if_neg c11] at H
                    exact absurd H (by simp)
                · rw [if_neg c10] at H
                  exact absurd H (by simp)
              · rw [if_neg c9] at H
                exact absurd H (by simp)
            · rw [if_neg c8] at H
              exact absurd H (by simp)
          · rw [if_neg c6] at H
            exact absurd H (by simp)
        · rw [if_neg c5] at H
          have c5b0 : decide (x4_1 < 30) = false := decide_eq_false c5
          clear c5
          obtain rfl := Option.some.inj H
          go_wp2
          go_ret
          exact ⟨_, by first | rfl, by exact HO_3.out, by exact HB.out⟩
      · rw [if_neg c4] at H
        have c4b0 : decide (x4_1 < (l0.length : Int)) = false := decide_eq_false c4
        clear c4
        obtain rfl := Option.some.inj H
        go_wp2
        go_ret
        exact ⟨_, by first | rfl, by exact HO_3.out, by exact HB.out⟩

/-! ### proofmarkref27_find: function 69 -/
def proofmarkref27_find.l0 : Nat → ByteArray → ByteArray → Int → Option (Int)
  | 0, _, _, _ => none
  | k + 1, x0, x1, x7 => if (wrap64 (x7 + (x1.size : Int))) ≤ (x0.size : Int) then (if 0 ≤ x7 then (if x7 ≤ (wrap64 (x7 + (x1.size : Int))) then (if (x0.extract (x7 : Int).toNat ((wrap64 (x7 + (x1.size : Int))) : Int).toNat).toList = x1.toList then (some x7) else (proofmarkref27_find.l0 k x0 x1 (wrap64 (x7 + 1)))) else (none)) else (none)) else (some (-1))
def proofmarkref27_find.f (k : Nat) (a0 : ByteArray) (a1 : ByteArray) (a2 : Int) : Option (Int) := proofmarkref27_find.l0 k a0 a1 a2
theorem proofmarkref27_find.mono_l : ∀ k, (∀ y0 y1 y2, LeO (proofmarkref27_find.l0 k y0 y1 y2) (proofmarkref27_find.l0 (k + 1) y0 y1 y2))
  | 0 => fun _ _ _ r h => by simp [proofmarkref27_find.l0] at h
  | k + 1 => by
    have ih0 := proofmarkref27_find.mono_l k
    · intro y0 y1 y2
      unfold proofmarkref27_find.l0
      repeat' first
      | (with_reducible exact ih0 _ _ _)
      | (with_reducible exact LeO.refl _)
      | (with_reducible exact LeO.none _)
      | (with_reducible refine LeO.ite ?_ ?_)
      | (with_reducible refine LeO.bind ?_ (fun _ => ?_))
      | exact ih0 _ _ _
      | exact LeO.none _
      | refine LeO.ite ?_ ?_
      | refine LeO.bind ?_ (fun _ => ?_)
theorem proofmarkref27_find.mono : ∀ a0 a1 a2 k, LeO (proofmarkref27_find.f k a0 a1 a2) (proofmarkref27_find.f (k + 1) a0 a1 a2) := by
  intro a0 a1 a2 k
  have ih0 := proofmarkref27_find.mono_l k
  unfold proofmarkref27_find.f
  repeat' first
      | (with_reducible exact ih0 _ _ _)
      | (with_reducible exact LeO.refl _)
      | (with_reducible exact LeO.none _)
      | (with_reducible refine LeO.ite ?_ ?_)
      | (with_reducible refine LeO.bind ?_ (fun _ => ?_))
      | exact ih0 _ _ _
      | exact LeO.none _
      | refine LeO.ite ?_ ?_
      | refine LeO.bind ?_ (fun _ => ?_)
set_option maxHeartbeats 8000000 in
set_option maxRecDepth 100000 in
theorem proofmarkref27_find.calls (k : Nat) (a0 : ByteArray) (a1 : ByteArray) (a2 : Int) (r : Int) (w : World) (h : proofmarkref27_find.f k a0 a1 a2 = some r) :
    Calls Tryz.prog 69 #[.string a0, .string a1, .int .i64 a2] w fun e w' => e = .returned (.int .i64 r) ∧ Drawn0 w w' := by
  have H : (proofmarkref27_find.l0 k a0 a1 a2) = some r := h
  clear h
  have H' := Aside0.mk H
  clear H
  go_enter Tryz.func69, Tryz.ntmps69
  go_wp2
  try simp only [Act.put, List.setIfInBounds_toArray, List.set_cons_succ, List.set_cons_zero]
  go_loopg [7] k (fun kq v7 w' => ∃ (x7_1 : Int), v7 = .int .i64 x7_1 ∧ Aside0 (proofmarkref27_find.l0 kq a0 a1 x7_1 = some r) ∧ Aside0 (kq ≤ k) ∧ Drawn0 w w')
  case atStart => exact ⟨(a2), rfl, H', ⟨Nat.le_refl _⟩, by repeat (first | exact Drawn0.refl _)⟩
  case round =>
    clear H'
    try clear p2
    obtain ⟨x7_1, rfl, HA, HK1, ⟨m1, rfl⟩⟩ := hrel
    cases gk with
    | zero => exact absurd HA.out (by simp [proofmarkref27_find.l0])
    | succ k1 =>
      have H := HA.out
      clear HA
      simp only [proofmarkref27_find.l0] at H
      by_cases c4 : (wrap64 (x7_1 + (a1.size : Int))) ≤ (a0.size : Int)
      · rw [if_pos c4] at H
        have c4b0 : decide ((wrap64 (x7_1 + (a1.size : Int))) ≤ (a0.size : Int)) = true := decide_eq_true c4
        clear c4
        by_cases c5 : 0 ≤ x7_1
        · rw [if_pos c5] at H
          have c5b0 := eq_true c5
          have c5b1 : decide (0 ≤ x7_1) = true := decide_eq_true c5
          clear c5
          by_cases c6 : x7_1 ≤ (wrap64 (x7_1 + (a1.size : Int)))
          · rw [if_pos c6] at H
            have c6b0 := eq_true c6
            have c6b1 : decide (x7_1 ≤ (wrap64 (x7_1 + (a1.size : Int)))) = true := decide_eq_true c6
            have c7b0 := eq_true (of_decide_eq_true (by first | (with_reducible assumption)) : (wrap64 (x7_1 + (a1.size : Int))) ≤ (a0.size : Int))
            by_cases c8 : (a0.extract (x7_1 : Int).toNat ((wrap64 (x7_1 + (a1.size : Int))) : Int).toNat).toList = a1.toList
            · rw [if_pos c8] at H
              have c8b0 : ((a0.extract (x7_1 : Int).toNat ((wrap64 (x7_1 + (a1.size : Int))) : Int).toNat).toList == a1.toList) = true := beq_iff_eq.mpr c8
              have c8b1 : ((a0.extract (x7_1 : Int).toNat ((wrap64 (x7_1 + (a1.size : Int))) : Int).toNat).toList != a1.toList) = false := bne_eq_false_iff_eq.mpr c8
              clear c8
              obtain rfl := Option.some.inj H
              go_wp2
              go_ret
              exact ⟨by first | rfl, by repeat (first | exact Drawn0.refl _ | apply Drawn0.step)⟩
            · rw [if_neg c8] at H
              have c8b0 : ((a0.extract (x7_1 : Int).toNat ((wrap64 (x7_1 + (a1.size : Int))) : Int).toNat).toList == a1.toList) = false := beq_eq_false_iff_ne.mpr c8
              have c8b1 : ((a0.extract (x7_1 : Int).toNat ((wrap64 (x7_1 + (a1.size : Int))) : Int).toNat).toList != a1.toList) = true := bne_iff_ne.mpr c8
              have H' := Aside0.mk H
              clear H
              go_wp2
              go_roundg k1
              case measure => have := HK1.out; omega
              case rel => exact ⟨(wrap64 (x7_1 + 1)), rfl, H', ⟨by have := HK1.out; omega⟩, by repeat (first | exact Drawn0.refl _ | apply Drawn0.step)⟩
          · rw [if_neg c6] at H
            exact absurd H (by simp)
        · rw [if_neg c5] at H
          exact absurd H (by simp)
      · rw [if_neg c4] at H
        have c4b0 : decide ((wrap64 (x7_1 + (a1.size : Int))) ≤ (a0.size : Int)) = false := decide_eq_false c4
        clear c4
        obtain rfl := Option.some.inj H
        go_wp2
        go_ret
        exact ⟨by first | rfl, by repeat (first | exact Drawn0.refl _ | apply Drawn0.step)⟩

end Go.Proofs.YtmfekngjhiofaaaGreatDoor.Q
