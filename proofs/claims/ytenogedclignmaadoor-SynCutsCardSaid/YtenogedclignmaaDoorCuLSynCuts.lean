/-
  HELPER.
-/
import Derived.Test.YtenogedclignmaaDoorCuK24
namespace Go.Proofs.YtenogedclignmaaDoor.Q
open Go.RowKit Go.Proofs.YtenogedclignmaaDoorW.PrintWords Go.Proofs.YtenogedclignmaaDoorW.PrintLast Go.Proofs.YtenogedclignmaaDoorW.PrintMore
theorem info47 : (Tryd.prog.info? 47).map (fun i => (i.zero, i.size, i.bytes)) = some (some (.agg #[(.string ⟨#[]⟩), (.slice none 0 0), (.slice none 0 0), (.slice none 0 0)]), 4, 88) := by kernel_rfl
attribute [local go_sem] max2_int min2_int max_two min_two
set_option linter.unusedVariables false
set_option linter.unusedSimpArgs false
mutual
noncomputable def proofmarklaw02_SynCuts.j0 : Nat → Int → Bool → ByteArray → List (S37) → Bool → List (S47) → Option (Bool)
 | 0, _, _, _, _, _, _ => none
 | k + 1, x1, x5, x6, x7, x45, x115000 => if x45 = true then (some x5) else (if 0 ≤ x1 then (if x1 < (x7.length : Int) then (if ((rd_T37 x7 x1).f3) < 0 then (proofmarklaw02_SynCuts.j1 k x1 x5 x6 x7 ((rd_T37 x7 x1).f3) true x115000) else (proofmarklaw02_SynCuts.j1 k x1 x5 x6 x7 ((rd_T37 x7 x1).f3) (decide (((rd_T37 x7 x1).f3) > (x6.size : Int))) x115000)) else (none)) else (none))
noncomputable def proofmarklaw02_SynCuts.j1 : Nat → Int → Bool → ByteArray → List (S37) → Int → Bool → List (S47) → Option (Bool)
 | 0, _, _, _, _, _, _, _ => none
 | k + 1, x1, x5, x6, x7, x12, x59, x115000 => if x59 = true then (some false) else (if 0 ≤ x12 then (if x12 ≤ (x6.size : Int) then ((syn_Parse.f (x6.extract 0 (x12 : Int).toNat)).bind fun bt116 => (if (bt116.1.length : Int) > (x115000.length : Int) then (proofmarklaw02_SynCuts.j2 k x5 x12 bt116.2 true x115000 bt116.1) else (if (bt116.2.length : Int) > 1 then (proofmarklaw02_SynCuts.j2 k x5 x12 bt116.2 true x115000 bt116.1) else (if 0 ≤ x1 then (if x1 < (x7.length : Int) then (proofmarklaw02_SynCuts.j2 k x5 x12 bt116.2 (((bt116.2.length : Int) == 0) != (((rd_T37 x7 x1).f1).toList == ([109, 111, 100, 117, 108, 101] : List UInt8))) x115000 bt116.1) else (none)) else (none))))) else (none)) else (none))
noncomputable def proofmarklaw02_SynCuts.j2 : Nat → Bool → Int → List (S35) → Bool → List (S47) → List (S47) → Option (Bool)
 | 0, _, _, _, _, _, _ => none
 | k + 1, x5, x12, x14, x90, x115000, x123000 => if x90 = true then (some false) else (if (x14.length : Int) = 1 then (if 0 < (x14.length : Int) then (if (!(((rd_T35 x14 0).f0) == 21) || (!(((rd_T35 x14 0).f1) == x12) || (!(((rd_T35 x14 0).f2) == 0) || (!(((rd_T35 x14 0).f3) == 0))))) = true then (some false) else (if x5 = true then (if 0 ≤ (x123000.length : Int) then (if (x123000.length : Int) ≤ (x115000.length : Int) then ((proofmarkref02_Same.f x123000 (x115000.take ((x123000.length : Int) : Int).toNat)).bind fun t129 => (some t129)) else (none)) else (none)) else (some false))) else (none)) else (if x5 = true then (if 0 ≤ (x123000.length : Int) then (if (x123000.length : Int) ≤ (x115000.length : Int) then ((proofmarkref02_Same.f x123000 (x115000.take ((x123000.length : Int) : Int).toNat)).bind fun t134 => (some t134)) else (none)) else (none)) else (some false)))
end
noncomputable def proofmarklaw02_SynCuts.f (k : Nat) (a0 : ByteArray) (a1 : Int) : Option (Bool) := (proofmarklaw02_head.f).bind fun t101 => ((proofmarklaw02_few.f a0).bind fun t102 => ((lex_Lex.f t102).bind fun bt103 => ((syn_Parse.f t102).bind fun bt108 => (if bt103.2.1 = 0 then (if (bt108.2.length : Int) > 0 then (proofmarklaw02_SynCuts.j0 k a1 t101 t102 bt103.1 true bt108.1) else (if a1 < 0 then (proofmarklaw02_SynCuts.j0 k a1 t101 t102 bt103.1 true bt108.1) else (proofmarklaw02_SynCuts.j0 k a1 t101 t102 bt103.1 (decide (a1 ≥ (bt103.1.length : Int))) bt108.1))) else (proofmarklaw02_SynCuts.j0 k a1 t101 t102 bt103.1 true bt108.1)))))
def proofmarklaw02_SynCuts.T15 : Bool × List (List Nat × List Nat) := (true, [([], []), ([0], [0]), ([1], [1]), ([1], [1]), ([3, 1], [1, 3]), ([1], [1]), ([5, 1], [1, 5]), ([6, 1], [1, 6]), ([4, 7, 1], [1, 4, 7]), ([8, 1], [1, 8]), ([2, 9, 1, 1], [1, 2, 9]), ([1, 10], [1, 10]), ([11, 10, 0, 1, 2, 3, 4, 5, 6, 7, 8, 9, 10, 11], [11])])
def proofmarklaw02_SynCuts.B15 : List Nat := [0, 1, 3, 3, 11, 3, 35, 99, 251, 507, 1023, 2047, 4095]
theorem proofmarklaw02_SynCuts.tab15 : rtab .any (opsOf Tryd.f5 15) = proofmarklaw02_SynCuts.T15 := by kernel_rfl
theorem proofmarklaw02_SynCuts.bits15 : waitsOk proofmarklaw02_SynCuts.T15.2 proofmarklaw02_SynCuts.B15 = true := by kernel_rfl
set_option maxHeartbeats 8000000 in
set_option maxRecDepth 100000 in
theorem proofmarklaw02_SynCuts.calls1 (k : Nat) (a0 : ByteArray) (a1 : Int) (r : Bool) (w : World) (hG : Tab w) (h : proofmarklaw02_SynCuts.f k a0 a1 = some r) (hr : r = true) :
  Calls Tryd.prog 5 #[.string a0, .int .i64 a1] w fun e w' => e = .returned (.bool r) ∧ Below w.heap.size w w' := by
 have HRT := Aside0.mk hr
 clear hr
 have HG := Aside0.mk hG
 clear hG
 have hu26 := Tryd.underlying26
 have hu35 := Tryd.underlying35
 have HB := Aside0.mk (Below.refl w.heap.size w)
 have H : ((proofmarklaw02_head.f).bind fun t101 => ((proofmarklaw02_few.f a0).bind fun t102 => ((lex_Lex.f t102).bind fun bt103 => ((syn_Parse.f t102).bind fun bt108 => (if bt103.2.1 = 0 then (if (bt108.2.length : Int) > 0 then (proofmarklaw02_SynCuts.j0 k a1 t101 t102 bt103.1 true bt108.1) else (if a1 < 0 then (proofmarklaw02_SynCuts.j0 k a1 t101 t102 bt103.1 true bt108.1) else (proofmarklaw02_SynCuts.j0 k a1 t101 t102 bt103.1 (decide (a1 ≥ (bt103.1.length : Int))) bt108.1))) else (proofmarklaw02_SynCuts.j0 k a1 t101 t102 bt103.1 true bt108.1)))))) = some r := h
 clear h
 replace H := Option.bind_eq_some_iff.mp H
 obtain ⟨t101, A30, H⟩ := H
 replace H : ((proofmarklaw02_few.f a0).bind fun t102 => ((lex_Lex.f t102).bind fun bt103 => ((syn_Parse.f t102).bind fun bt108 => (if bt103.2.1 = 0 then (if (bt108.2.length : Int) > 0 then (proofmarklaw02_SynCuts.j0 k a1 t101 t102 bt103.1 true bt108.1) else (if a1 < 0 then (proofmarklaw02_SynCuts.j0 k a1 t101 t102 bt103.1 true bt108.1) else (proofmarklaw02_SynCuts.j0 k a1 t101 t102 bt103.1 (decide (a1 ≥ (bt103.1.length : Int))) bt108.1))) else (proofmarklaw02_SynCuts.j0 k a1 t101 t102 bt103.1 true bt108.1))))) = some r := H
 have A3 := Aside0.mk A30
 clear A30
 replace H := Option.bind_eq_some_iff.mp H
 obtain ⟨t102, A40, H⟩ := H
 replace H : ((lex_Lex.f t102).bind fun bt103 => ((syn_Parse.f t102).bind fun bt108 => (if bt103.2.1 = 0 then (if (bt108.2.length : Int) > 0 then (proofmarklaw02_SynCuts.j0 k a1 t101 t102 bt103.1 true bt108.1) else (if a1 < 0 then (proofmarklaw02_SynCuts.j0 k a1 t101 t102 bt103.1 true bt108.1) else (proofmarklaw02_SynCuts.j0 k a1 t101 t102 bt103.1 (decide (a1 ≥ (bt103.1.length : Int))) bt108.1))) else (proofmarklaw02_SynCuts.j0 k a1 t101 t102 bt103.1 true bt108.1)))) = some r := H
 have A4 := Aside0.mk A40
 clear A40
 replace H := Option.bind_eq_some_iff.mp H
 obtain ⟨⟨t103, t104, t105⟩, A50, H⟩ := H
 replace H : ((syn_Parse.f t102).bind fun bt108 => (if t104 = 0 then (if (bt108.2.length : Int) > 0 then (proofmarklaw02_SynCuts.j0 k a1 t101 t102 t103 true bt108.1) else (if a1 < 0 then (proofmarklaw02_SynCuts.j0 k a1 t101 t102 t103 true bt108.1) else (proofmarklaw02_SynCuts.j0 k a1 t101 t102 t103 (decide (a1 ≥ (t103.length : Int))) bt108.1))) else (proofmarklaw02_SynCuts.j0 k a1 t101 t102 t103 true bt108.1))) = some r := H
 have A5 := Aside0.mk A50
 clear A50
 replace H := Option.bind_eq_some_iff.mp H
 obtain ⟨⟨t108, t111⟩, A60, H⟩ := H
 replace H : (if t104 = 0 then (if (t111.length : Int) > 0 then (proofmarklaw02_SynCuts.j0 k a1 t101 t102 t103 true t108) else (if a1 < 0 then (proofmarklaw02_SynCuts.j0 k a1 t101 t102 t103 true t108) else (proofmarklaw02_SynCuts.j0 k a1 t101 t102 t103 (decide (a1 ≥ (t103.length : Int))) t108))) else (proofmarklaw02_SynCuts.j0 k a1 t101 t102 t103 true t108)) = some r := H
 have A6 := Aside0.mk A60
 clear A60
 have HC7 := Aside0.mk H
 clear H
 go_enter Tryd.func5, Tryd.ntmps5
 go_upto_region 5 with (first | ((with_reducible refine gate_callee (f := 9) rfl ?_); refine goesL_ (some 15) rfl rfl Tryd.func9 (by kernel_rfl) rfl #[] rfl (by (try simp only [List.map_toArray, List.map_cons, List.map_nil]); first | done) ?_; (with_reducible refine (proofmarklaw02_head.calls t101 _ (by first | exact HG.out) A3.out).mono ?_); rintro e w8 ⟨rfl, hb⟩; refine ⟨_, rfl, ?_⟩; have n0_ := Aside0.mk (below_step HB.out hb); clear HB; have HB := n0_; clear n0_; (try clear hb); (try clear hb2); (try clear hk); (try clear hi)) | ((with_reducible refine gate_callee (f := 10) rfl ?_); refine goesL_ (some 17) rfl rfl Tryd.func10 (by kernel_rfl) rfl #[.string a0] rfl (by (try simp only [List.map_toArray, List.map_cons, List.map_nil]); first | rfl) ?_; (with_reducible refine (proofmarklaw02_few.calls a0 t102 _ A4.out).mono ?_); rintro e w9 ⟨rfl, hb⟩; refine ⟨_, rfl, ?_⟩; have n0_ := Aside0.mk (below_step HB.out hb); clear HB; have HB := n0_; clear n0_; (try clear hb); (try clear hb2); (try clear hk); (try clear hi)) | ((with_reducible refine gate_callee (f := 12) rfl ?_); refine goesL_ (some 20) rfl rfl Tryd.func12 (by kernel_rfl) rfl #[.string t102] rfl (by (try simp only [List.map_toArray, List.map_cons, List.map_nil]); first | rfl) ?_; (with_reducible refine (lex_Lex.calls t102 t103 t104 t105 _ (by first | (refine tab_below HG.out ?_; repeat (first | (with_reducible first | exact HB.out)))) A5.out).mono ?_); rintro e w10 ⟨v106, rfl, ho0, hb⟩; refine ⟨_, rfl, ?_⟩; have n0_ := Aside0.mk (Kd.R_lower ho0 (below_size HB.out)); have n1_ := Aside0.mk (below_step HB.out hb); clear HB; have HO107 := n0_; have HB := n1_; clear n0_ n1_; (try clear hb); (try clear hb2); (try clear hk); (try clear hi); (try clear ho0)) | ((with_reducible refine gate_callee (f := 11) rfl ?_); refine goesL_ (some 26) rfl rfl Tryd.func11 (by kernel_rfl) rfl #[.string t102] rfl (by (try simp only [List.map_toArray, List.map_cons, List.map_nil]); first | rfl) ?_; (with_reducible refine (syn_Parse.calls t102 t108 t111 _ (by first | (refine tab_below HG.out ?_; repeat (first | (with_reducible first | exact HB.out)))) A6.out).mono ?_); rintro e w11 ⟨v109, v112, rfl, ho0, ho1, hb⟩; refine ⟨_, rfl, ?_⟩; have n0_ := Aside0.mk (Kd.R_below HO107.out hb); have n1_ := Aside0.mk (Kd.R_lower ho0 (below_size HB.out)); have n2_ := Aside0.mk (Kd.R_lower ho1 (below_size HB.out)); have n3_ := Aside0.mk (below_step HB.out hb); clear HO107; clear HB; have HO107 := n0_; have HO110 := n1_; have HO113 := n2_; have HB := n3_; clear n0_ n1_ n2_ n3_; (try clear hb); (try clear hb2); (try clear hk); (try clear hi); (try clear ho0); (try clear ho1)) | ((with_reducible refine gate_dst (N := 10) rfl ?_); (try (refine gate_guard (by rfl) ?_; dsimp only)); refine box_event ?hg (N := 10) ?hd (cs := #[.slice none 0 0]) (t := 26) ?hr ?_; (case hd => rfl); (case hg => rfl); (case hr => first | (go_simp; done)); intro gb114 hg w12 hbox hb; have n0_ := Aside0.mk (Kd.R_below HO107.out hb); have n1_ := Aside0.mk (Kd.R_below HO110.out hb); have n2_ := Aside0.mk (Kd.R_below HO113.out hb); have n3_ := Aside0.mk (below_step HB.out hb); have n4_ := Aside0.mk (hbox); have n5_ := Aside0.mk ((by rw [hg]; exact (below_size HB.out) : w.heap.size ≤ gb114)); have n6_ := Aside0.mk ((by rw [hg]; exact (below_size HB.out) : w.heap.size ≤ gb114)); clear HO107; clear HO110; clear HO113; clear HB; have HO107 := n0_; have HO110 := n1_; have HO113 := n2_; have HB := n3_; have BK114 := n4_; have GW114 := n5_; have GE114 := n6_; clear n0_ n1_ n2_ n3_ n4_ n5_ n6_; clear hb hbox hg; obtain ⟨Ao13, co13, eo13⟩ := Kd.R_slice HO110.out; subst eo13; have hcz14_0 : w12.cell? ⟨gb114, 0, none⟩ = some (.slice none 0 0) := (blk_cell BK114.out 0).trans rfl; have hfz14_0 := blk_frozen BK114.out 0))
 (try simp only [Act.put, List.setIfInBounds_toArray, List.set_cons_zero, List.set_cons_succ])
 go_cut [45] (fun v45 wc => ∃ (kq : Nat) (x45_6 : Bool), v45 = .bool x45_6 ∧ Aside0 (proofmarklaw02_SynCuts.j0 kq a1 t101 t102 t103 x45_6 t108 = some r) ∧ Aside0 (kq ≤ k) ∧ Aside0 (Kd.R k37 37 wc w.heap.size (fun _ => True) v106 t103) ∧ Aside0 (Kd.R k47 47 wc w.heap.size (fun _ => True) (.slice Ao13 t108.length co13) t108) ∧ Aside0 (wc.heap[gb114]? = some (.cells #[(.slice Ao13 t108.length co13)] 26 (0, 0))) ∧ Aside0 (Below w.heap.size w wc))
 case first =>
  have H := HC7.out
  clear HC7
  by_cases c15 : t104 = 0
  ·rw [if_pos c15] at H
   have c15b0 : (t104 == 0) = true := beq_iff_eq.mpr c15
   have c15b1 : (t104 != 0) = false := bne_eq_false_iff_eq.mpr c15
   clear c15
   (first | skip)
   by_cases c16 : (t111.length : Int) > 0
   ·rw [if_pos c16] at H
    have c16b0 : decide (0 < (t111.length : Int)) = true := decide_eq_true c16
    have c16b1 : decide (0 < t111.length) = true := decide_eq_true (by omega)
    clear c16
    have H' := Aside0.mk H
    clear H
    obtain ⟨Ao17, co17, eo17⟩ := Kd.R_slice HO113.out
    subst eo17
    go_wp2
    go_meet
    case rel => exact ⟨_, (true), rfl, H', ⟨by first | omega⟩, ⟨by exact Kd.R_mono (Kd.R_far (p := ⟨gb114, 0, none⟩) (Kd.R_types HO107.out BK114.out (by decide)) (fun _ hk => hk.2) (.slice Ao13 t108.length co13)) (fun _ hk => trivial)⟩, ⟨by exact Kd.R_mono (Kd.R_far (p := ⟨gb114, 0, none⟩) (Kd.R_types HO110.out BK114.out (by decide)) (fun _ hk => hk.2) (.slice Ao13 t108.length co13)) (fun _ hk => trivial)⟩, ⟨by refine blk_put (cs := #[.slice none 0 0]) ?_ 0 _ rfl; exact BK114.out⟩, ⟨by repeat (first | (with_reducible first | exact HB.out | refine below_set ?_ GE114.out))⟩⟩
   ·rw [if_neg c16] at H
    have c16b0 : decide (0 < (t111.length : Int)) = false := decide_eq_false c16
    have c16b1 : decide (0 < t111.length) = false := decide_eq_false (by omega)
    clear c16
    by_cases c18 : a1 < 0
    ·rw [if_pos c18] at H
     have c18b0 : decide (a1 < 0) = true := decide_eq_true c18
     clear c18
     have H' := Aside0.mk H
     clear H
     obtain ⟨Ao19, co19, eo19⟩ := Kd.R_slice HO113.out
     subst eo19
     go_wp2
     go_meet
     case rel => exact ⟨_, (true), rfl, H', ⟨by first | omega⟩, ⟨by exact Kd.R_mono (Kd.R_far (p := ⟨gb114, 0, none⟩) (Kd.R_types HO107.out BK114.out (by decide)) (fun _ hk => hk.2) (.slice Ao13 t108.length co13)) (fun _ hk => trivial)⟩, ⟨by exact Kd.R_mono (Kd.R_far (p := ⟨gb114, 0, none⟩) (Kd.R_types HO110.out BK114.out (by decide)) (fun _ hk => hk.2) (.slice Ao13 t108.length co13)) (fun _ hk => trivial)⟩, ⟨by refine blk_put (cs := #[.slice none 0 0]) ?_ 0 _ rfl; exact BK114.out⟩, ⟨by repeat (first | (with_reducible first | exact HB.out | refine below_set ?_ GE114.out))⟩⟩
    ·rw [if_neg c18] at H
     have c18b0 : decide (a1 < 0) = false := decide_eq_false c18
     clear c18
     have H' := Aside0.mk H
     clear H
     obtain ⟨Ao20, co20, eo20⟩ := Kd.R_slice HO113.out
     subst eo20
     obtain ⟨Ao21, co21, eo21⟩ := Kd.R_slice HO107.out
     subst eo21
     go_wp2
     go_meet
     case rel => exact ⟨_, (decide (a1 ≥ (t103.length : Int))), rfl, H', ⟨by first | omega⟩, ⟨by exact Kd.R_mono (Kd.R_far (p := ⟨gb114, 0, none⟩) (Kd.R_types HO107.out BK114.out (by decide)) (fun _ hk => hk.2) (.slice Ao13 t108.length co13)) (fun _ hk => trivial)⟩, ⟨by exact Kd.R_mono (Kd.R_far (p := ⟨gb114, 0, none⟩) (Kd.R_types HO110.out BK114.out (by decide)) (fun _ hk => hk.2) (.slice Ao13 t108.length co13)) (fun _ hk => trivial)⟩, ⟨by refine blk_put (cs := #[.slice none 0 0]) ?_ 0 _ rfl; exact BK114.out⟩, ⟨by repeat (first | (with_reducible first | exact HB.out | refine below_set ?_ GE114.out))⟩⟩
  ·rw [if_neg c15] at H
   have c15b0 : (t104 == 0) = false := beq_eq_false_iff_ne.mpr c15
   have c15b1 : (t104 != 0) = true := bne_iff_ne.mpr c15
   (first | skip)
   have H' := Aside0.mk H
   clear H
   go_wp2
   go_meet
   case rel => exact ⟨_, (true), rfl, H', ⟨by first | omega⟩, ⟨by exact Kd.R_mono (Kd.R_far (p := ⟨gb114, 0, none⟩) (Kd.R_types HO107.out BK114.out (by decide)) (fun _ hk => hk.2) (.slice Ao13 t108.length co13)) (fun _ hk => trivial)⟩, ⟨by exact Kd.R_mono (Kd.R_far (p := ⟨gb114, 0, none⟩) (Kd.R_types HO110.out BK114.out (by decide)) (fun _ hk => hk.2) (.slice Ao13 t108.length co13)) (fun _ hk => trivial)⟩, ⟨by refine blk_put (cs := #[.slice none 0 0]) ?_ 0 _ rfl; exact BK114.out⟩, ⟨by repeat (first | (with_reducible first | exact HB.out | refine below_set ?_ GE114.out))⟩⟩
 case rest =>
  clear HC7
  try clear c1
  try clear p2
  try clear c5
  try clear c9
  try clear c10
  try clear c11
  try clear c12
  try clear c15
  try clear c15b0
  try clear c15b1
  try clear c16
  try clear c16b0
  try clear c16b1
  try clear c18
  try clear c18b0
  try clear hcz14_0
  try clear hfz14_0
  obtain ⟨kq, x45_6, rfl, HA, HJ6, HO_7, HO_115000, BK114, HB⟩ := hcut
  cases kq with
  | zero => exact absurd HA.out (by simp [proofmarklaw02_SynCuts.j0])
  | succ kj6 =>
   have H := HA.out
   clear HA
   simp only [proofmarklaw02_SynCuts.j0] at H
   by_cases c22 : x45_6 = true
   ·subst c22
    have H1 : (some t101) = some r := by rw [if_pos rfl] at H; exact H
    clear H
    have H := H1
    clear H1
    obtain rfl := Option.some.inj H
    go_wp2
    all_goals (go_ret; exact ⟨by first | rfl, by exact HB.out⟩)
   ·replace c22 := Bool.eq_false_iff.mpr c22
    subst c22
    have H1 : (if 0 ≤ a1 then (if a1 < (t103.length : Int) then (if ((rd_T37 t103 a1).f3) < 0 then (proofmarklaw02_SynCuts.j1 kj6 a1 t101 t102 t103 ((rd_T37 t103 a1).f3) true t108) else (proofmarklaw02_SynCuts.j1 kj6 a1 t101 t102 t103 ((rd_T37 t103 a1).f3) (decide (((rd_T37 t103 a1).f3) > (t102.size : Int))) t108)) else (none)) else (none)) = some r := by rw [if_neg (show ¬ (false = true) by decide)] at H; exact H
    clear H
    have H := H1
    clear H1
    by_cases c23 : 0 ≤ a1
    ·rw [if_pos c23] at H
     have c23b0 : decide (0 ≤ a1) = true := decide_eq_true c23
     clear c23
     by_cases c24 : a1 < (t103.length : Int)
     ·rw [if_pos c24] at H
      have c24b0 : decide (a1 < (t103.length : Int)) = true := decide_eq_true c24
      clear c24
      have HC25 := Aside0.mk H
      clear H
      obtain ⟨Ao26, co26, eo26⟩ := Kd.R_slice HO_7.out
      subst eo26
      have p115 : 0 ≤ (a1 : Int) := of_decide_eq_true (by first | (with_reducible assumption))
      have q115 : a1 < (t103.length : Int) := of_decide_eq_true (by first | (with_reducible assumption))
      obtain ⟨ad115, e115, hx115_0, hx115_1, hx115_2, hx115_3⟩ := at_T37 (Kd.R_reads' HO_7.out).2.2 a1 p115 q115
      cases e115
      replace p115 := eq_true p115
      replace q115 := eq_true q115
      go_upto_region 8 with (fail)
      go_cut [59] (fun v59 wc => ∃ (kq : Nat) (x59_24 : Bool), v59 = .bool x59_24 ∧ Aside0 (proofmarklaw02_SynCuts.j1 kq a1 t101 t102 t103 ((rd_T37 t103 a1).f3) x59_24 t108 = some r) ∧ Aside0 (kq ≤ kj6) ∧ Aside0 (Kd.R k37 37 wc w.heap.size (fun _ => True) (.slice (some ad115) t103.length co26) t103) ∧ Aside0 (Kd.R k47 47 wc w.heap.size (fun _ => True) (.slice Ao13 t108.length co13) t108) ∧ Aside0 (wc.heap[gb114]? = some (.cells #[(.slice Ao13 t108.length co13)] 26 (0, 0))) ∧ Aside0 (Below w.heap.size w wc))
      case first =>
       have H := HC25.out
       clear HC25
       by_cases c27 : ((rd_T37 t103 a1).f3) < 0
       ·rw [if_pos c27] at H
        have c27b0 : decide (((rd_T37 t103 a1).f3) < 0) = true := decide_eq_true c27
        clear c27
        (first | skip)
        have H' := Aside0.mk H
        clear H
        go_wp2
        go_meet
        case rel => exact ⟨_, (true), rfl, H', ⟨by have := HJ6.out; first | omega⟩, ⟨by exact HO_7.out⟩, ⟨by exact HO_115000.out⟩, ⟨by exact BK114.out⟩, ⟨by exact HB.out⟩⟩
       ·rw [if_neg c27] at H
        have c27b0 : decide (((rd_T37 t103 a1).f3) < 0) = false := decide_eq_false c27
        clear c27
        (first | skip)
        have H' := Aside0.mk H
        clear H
        go_wp2
        go_meet
        case rel => exact ⟨_, (decide (((rd_T37 t103 a1).f3) > (t102.size : Int))), rfl, H', ⟨by have := HJ6.out; first | omega⟩, ⟨by exact HO_7.out⟩, ⟨by exact HO_115000.out⟩, ⟨by exact BK114.out⟩, ⟨by exact HB.out⟩⟩
      case rest =>
       clear HC25
       try clear c1
       try clear p1
       try clear q1
       try clear hx1
       try clear c2
       try clear p2
       try clear c5
       try clear c9
       try clear c10
       try clear c11
       try clear p11
       try clear q11
       try clear hx11
       try clear c12
       try clear c15
       try clear c15b0
       try clear c15b1
       try clear c16
       try clear c16b0
       try clear c16b1
       try clear c18
       try clear c18b0
       try clear c22
       try clear c23
       try clear c23b0
       try clear c24
       try clear c24b0
       try clear c27
       try clear c27b0
       try clear hcz14_0
       try clear hfz14_0
       try clear hx115_0
       try clear hx115_1
       try clear hx115_2
       try clear hx115_3
       try clear p115
       try clear p2
       try clear q115
       obtain ⟨kq, x59_24, rfl, HA, HJ24, HO_7, HO_115000, BK114, HB⟩ := hcut
       cases kq with
       | zero => exact absurd HA.out (by simp [proofmarklaw02_SynCuts.j1])
       | succ kj24 =>
        have H := HA.out
        clear HA
        simp only [proofmarklaw02_SynCuts.j1] at H
        by_cases c28 : x59_24 = true
        ·subst c28
         have H1 : (some false) = some r := by rw [if_pos rfl] at H; exact H
         exact absurd (Option.some.inj H1) (by rw [HRT.out]; decide)
        ·replace c28 := Bool.eq_false_iff.mpr c28
         subst c28
         have H1 : (if 0 ≤ ((rd_T37 t103 a1).f3) then (if ((rd_T37 t103 a1).f3) ≤ (t102.size : Int) then ((syn_Parse.f (t102.extract 0 (((rd_T37 t103 a1).f3) : Int).toNat)).bind fun bt116 => (if (bt116.1.length : Int) > (t108.length : Int) then (proofmarklaw02_SynCuts.j2 kj24 t101 ((rd_T37 t103 a1).f3) bt116.2 true t108 bt116.1) else (if (bt116.2.length : Int) > 1 then (proofmarklaw02_SynCuts.j2 kj24 t101 ((rd_T37 t103 a1).f3) bt116.2 true t108 bt116.1) else (if 0 ≤ a1 then (if a1 < (t103.length : Int) then (proofmarklaw02_SynCuts.j2 kj24 t101 ((rd_T37 t103 a1).f3) bt116.2 (((bt116.2.length : Int) == 0) != (((rd_T37 t103 a1).f1).toList == ([109, 111, 100, 117, 108, 101] : List UInt8))) t108 bt116.1) else (none)) else (none))))) else (none)) else (none)) = some r := by rw [if_neg (show ¬ (false = true) by decide)] at H; exact H
         clear H
         have H := H1
         clear H1
         by_cases c29 : 0 ≤ ((rd_T37 t103 a1).f3)
         ·rw [if_pos c29] at H
          have c29b0 := eq_true c29
          have c29b1 : decide (0 ≤ ((rd_T37 t103 a1).f3)) = true := decide_eq_true c29
          clear c29
          by_cases c30 : ((rd_T37 t103 a1).f3) ≤ (t102.size : Int)
          ·rw [if_pos c30] at H
           have c30b0 := eq_true c30
           have c30b1 : decide (((rd_T37 t103 a1).f3) ≤ (t102.size : Int)) = true := decide_eq_true c30
           clear c30
           replace H := Option.bind_eq_some_iff.mp H
           obtain ⟨⟨t116, t119⟩, A310, H⟩ := H
           replace H : (if (t116.length : Int) > (t108.length : Int) then (proofmarklaw02_SynCuts.j2 kj24 t101 ((rd_T37 t103 a1).f3) t119 true t108 t116) else (if (t119.length : Int) > 1 then (proofmarklaw02_SynCuts.j2 kj24 t101 ((rd_T37 t103 a1).f3) t119 true t108 t116) else (if 0 ≤ a1 then (if a1 < (t103.length : Int) then (proofmarklaw02_SynCuts.j2 kj24 t101 ((rd_T37 t103 a1).f3) t119 (((t119.length : Int) == 0) != (((rd_T37 t103 a1).f1).toList == ([109, 111, 100, 117, 108, 101] : List UInt8))) t108 t116) else (none)) else (none)))) = some r := H
           have A31 := Aside0.mk A310
           clear A310
           have HC32 := Aside0.mk H
           clear H
           go_upto_region 11 with (first | ((with_reducible refine gate_callee (f := 11) rfl ?_); refine goesL_ (some 64) rfl rfl Tryd.func11 (by kernel_rfl) rfl #[.string (t102.extract 0 (((rd_T37 t103 a1).f3) : Int).toNat)] rfl (by (try simp only [List.map_toArray, List.map_cons, List.map_nil]); first | rfl) ?_; (with_reducible refine (syn_Parse.calls (t102.extract 0 (((rd_T37 t103 a1).f3) : Int).toNat) t116 t119 _ (by first | (refine tab_below HG.out ?_; repeat (first | (with_reducible first | exact HB.out)))) A31.out).mono ?_); rintro e w33 ⟨v117, v120, rfl, ho0, ho1, hb⟩; refine ⟨_, rfl, ?_⟩; have n0_ := Aside0.mk (Kd.R_below HO_7.out hb); have n1_ := Aside0.mk (Kd.R_elder' HO_115000.out (Kd.R_base ho0) hb); have n2_ := Aside0.mk (Kd.R_lower (Kd.R_new' ho0 (Kd.R_lt HO_115000.out)) (below_size HB.out)); have n3_ := Aside0.mk (Kd.R_lower ho1 (below_size HB.out)); have n4_ := Aside0.mk (blk_below BK114.out hb); have n5_ := Aside0.mk (below_step HB.out hb); clear HO_7; clear HO_115000; clear BK114; clear HB; have HO_7 := n0_; have HO_115000 := n1_; have HO118 := n2_; have HO121 := n3_; have BK114 := n4_; have HB := n5_; clear n0_ n1_ n2_ n3_ n4_ n5_; (try clear hb); (try clear hb2); (try clear hk); (try clear hi); (try clear ho0); (try clear ho1)) | ((with_reducible refine gate_dst (N := 13) rfl ?_); (try (refine gate_guard (by rfl) ?_; dsimp only)); refine box_event ?hg (N := 13) ?hd (cs := #[.slice none 0 0]) (t := 26) ?hr ?_; (case hd => rfl); (case hg => rfl); (case hr => first | (go_simp; done)); intro gb122 hg w34 hbox hb; have n0_ := Aside0.mk (Kd.R_below HO_7.out hb); have n1_ := Aside0.mk (Kd.R_below HO_115000.out hb); have n2_ := Aside0.mk (Kd.R_below HO118.out hb); have n3_ := Aside0.mk (Kd.R_below HO121.out hb); have n4_ := Aside0.mk (blk_below BK114.out hb); have n5_ := Aside0.mk (below_step HB.out hb); have n6_ := Aside0.mk (hbox); have n7_ := Aside0.mk ((by rw [hg]; exact (below_size HB.out) : w.heap.size ≤ gb122)); have n8_ := Aside0.mk ((by rw [hg]; exact (below_size HB.out) : w.heap.size ≤ gb122)); have n9_ := Aside0.mk ((by rw [hg]; exact Nat.ne_of_lt (blk_lt BK114.out) : gb114 ≠ gb122)); have n10_ := Aside0.mk ((by rw [hg]; exact Nat.ne_of_gt (blk_lt BK114.out) : gb122 ≠ gb114)); clear HO_7; clear HO_115000; clear HO118; clear HO121; clear BK114; clear HB; have HO_7 := n0_; have HO_115000 := n1_; have HO118 := n2_; have HO121 := n3_; have BK114 := n4_; have HB := n5_; have BK122 := n6_; have GW122 := n7_; have GE122 := n8_; have NB114_122 := n9_; have NB122_114 := n10_; clear n0_ n1_ n2_ n3_ n4_ n5_ n6_ n7_ n8_ n9_ n10_; clear hb hbox hg; obtain ⟨Ao35, co35, eo35⟩ := Kd.R_slice HO118.out; subst eo35; have hnb36 := NB122_114.out; have hnc36 := NB114_122.out; have hcz37_0 : w34.cell? ⟨gb122, 0, none⟩ = some (.slice none 0 0) := (blk_cell BK122.out 0).trans rfl; have hfz37_0 := blk_frozen BK122.out 0))
           (try simp only [Act.put, List.setIfInBounds_toArray, List.set_cons_zero, List.set_cons_succ])
           go_cut [90] (fun v90 wc => ∃ (kq : Nat) (x90_31 : Bool), v90 = .bool x90_31 ∧ Aside0 (proofmarklaw02_SynCuts.j2 kq t101 ((rd_T37 t103 a1).f3) t119 x90_31 t108 t116 = some r) ∧ Aside0 (kq ≤ kj24) ∧ Aside0 (Kd.R k35 35 wc w.heap.size (fun _ => True) v120 t119) ∧ Aside0 (Kd.R k47 47 wc w.heap.size (fun k_ => some k_ ≠ ((.slice Ao35 t116.length co35) : Value).ownBlock) (.slice Ao13 t108.length co13) t108) ∧ Aside0 (Kd.R k47 47 wc w.heap.size (fun k_ => some k_ ≠ ((.slice Ao13 t108.length co13) : Value).ownBlock) (.slice Ao35 t116.length co35) t116) ∧ Aside0 (wc.heap[gb114]? = some (.cells #[(.slice Ao13 t108.length co13)] 26 (0, 0))) ∧ Aside0 (wc.heap[gb122]? = some (.cells #[(.slice Ao35 t116.length co35)] 26 (0, 0))) ∧ Aside0 (Below w.heap.size w wc))
           case first =>
            have H := HC32.out
            clear HC32
            by_cases c38 : (t116.length : Int) > (t108.length : Int)
            ·rw [if_pos c38] at H
             have c38b0 : decide ((t108.length : Int) < (t116.length : Int)) = true := decide_eq_true c38
             have c38b1 : decide (t108.length < t116.length) = true := decide_eq_true (Int.ofNat_lt.mp c38)
             clear c38
             (first | skip)
             have H' := Aside0.mk H
             clear H
             have hnb39 := NB122_114.out
             have hnc39 := NB114_122.out
             have hcz40_0 : w34.cell? ⟨gb122, 0, none⟩ = some (.slice none 0 0) := (blk_cell BK122.out 0).trans rfl
             have hfz40_0 := blk_frozen BK122.out 0
             have hcz41_0 : w34.cell? ⟨gb114, 0, none⟩ = some (.slice Ao13 t108.length co13) := (blk_cell BK114.out 0).trans rfl
             have hfz41_0 := blk_frozen BK114.out 0
             go_wp2
             go_meet
             case rel => exact ⟨_, (true), rfl, H', ⟨by have := HJ6.out; have := HJ24.out; first | omega⟩, ⟨by exact Kd.R_mono (Kd.R_far (p := ⟨gb122, 0, none⟩) (Kd.R_types HO121.out BK122.out (by decide)) (fun _ hk => hk.2) (.slice Ao35 t116.length co35)) (fun _ hk => trivial)⟩, ⟨by exact Kd.R_mono (Kd.R_far (p := ⟨gb122, 0, none⟩) (Kd.R_types HO_115000.out BK122.out (by decide)) (fun _ hk => hk.2) (.slice Ao35 t116.length co35)) (fun _ hk => hk.1.2)⟩, ⟨by exact Kd.R_mono (Kd.R_far (p := ⟨gb122, 0, none⟩) (Kd.R_types HO118.out BK122.out (by decide)) (fun _ hk => hk.2) (.slice Ao35 t116.length co35)) (fun _ hk => hk.1.2)⟩, ⟨by refine blk_far ?_ NB114_122.out _; exact BK114.out⟩, ⟨by refine blk_put (cs := #[.slice none 0 0]) ?_ 0 _ rfl; exact BK122.out⟩, ⟨by repeat (first | (with_reducible first | exact HB.out | refine below_set ?_ GE122.out))⟩⟩
            ·rw [if_neg c38] at H
             have c38b0 : decide ((t108.length : Int) < (t116.length : Int)) = false := decide_eq_false c38
             have c38b1 : decide (t108.length < t116.length) = false := decide_eq_false (fun h => c38 (Int.ofNat_lt.mpr h))
             clear c38
             (first | skip)
             by_cases c42 : (t119.length : Int) > 1
             ·rw [if_pos c42] at H
              have c42b0 : decide (1 < (t119.length : Int)) = true := decide_eq_true c42
              have c42b1 : decide (1 < t119.length) = true := decide_eq_true (by omega)
              clear c42
              have H' := Aside0.mk H
              clear H
              have hnb43 := NB122_114.out
              have hnc43 := NB114_122.out
              have hcz44_0 : w34.cell? ⟨gb122, 0, none⟩ = some (.slice none 0 0) := (blk_cell BK122.out 0).trans rfl
              have hfz44_0 := blk_frozen BK122.out 0
              have hcz45_0 : w34.cell? ⟨gb114, 0, none⟩ = some (.slice Ao13 t108.length co13) := (blk_cell BK114.out 0).trans rfl
              have hfz45_0 := blk_frozen BK114.out 0
              obtain ⟨Ao46, co46, eo46⟩ := Kd.R_slice HO121.out
              subst eo46
              go_wp2
              go_meet
              case rel => exact ⟨_, (true), rfl, H', ⟨by have := HJ6.out; have := HJ24.out; first | omega⟩, ⟨by exact Kd.R_mono (Kd.R_far (p := ⟨gb122, 0, none⟩) (Kd.R_types HO121.out BK122.out (by decide)) (fun _ hk => hk.2) (.slice Ao35 t116.length co35)) (fun _ hk => trivial)⟩, ⟨by exact Kd.R_mono (Kd.R_far (p := ⟨gb122, 0, none⟩) (Kd.R_types HO_115000.out BK122.out (by decide)) (fun _ hk => hk.2) (.slice Ao35 t116.length co35)) (fun _ hk => hk.1.2)⟩, ⟨by exact Kd.R_mono (Kd.R_far (p := ⟨gb122, 0, none⟩) (Kd.R_types HO118.out BK122.out (by decide)) (fun _ hk => hk.2) (.slice Ao35 t116.length co35)) (fun _ hk => hk.1.2)⟩, ⟨by refine blk_far ?_ NB114_122.out _; exact BK114.out⟩, ⟨by refine blk_put (cs := #[.slice none 0 0]) ?_ 0 _ rfl; exact BK122.out⟩, ⟨by repeat (first | (with_reducible first | exact HB.out | refine below_set ?_ GE122.out))⟩⟩
             ·rw [if_neg c42] at H
              have c42b0 : decide (1 < (t119.length : Int)) = false := decide_eq_false c42
              have c42b1 : decide (1 < t119.length) = false := decide_eq_false (by omega)
              clear c42
              by_cases c47 : 0 ≤ a1
              ·rw [if_pos c47] at H
               have c47b0 : decide (0 ≤ a1) = true := decide_eq_true c47
               clear c47
               by_cases c48 : a1 < (t103.length : Int)
               ·rw [if_pos c48] at H
                have c48b0 : decide (a1 < (t103.length : Int)) = true := decide_eq_true c48
                clear c48
                have H' := Aside0.mk H
                clear H
                have hnb49 := NB122_114.out
                have hnc49 := NB114_122.out
                have hcz50_0 : w34.cell? ⟨gb122, 0, none⟩ = some (.slice none 0 0) := (blk_cell BK122.out 0).trans rfl
                have hfz50_0 := blk_frozen BK122.out 0
                have hcz51_0 : w34.cell? ⟨gb114, 0, none⟩ = some (.slice Ao13 t108.length co13) := (blk_cell BK114.out 0).trans rfl
                have hfz51_0 := blk_frozen BK114.out 0
                obtain ⟨Ao52, co52, eo52⟩ := Kd.R_slice HO121.out
                subst eo52
                have p123 : 0 ≤ (a1 : Int) := of_decide_eq_true (by first | (with_reducible assumption))
                have q123 : a1 < (t103.length : Int) := of_decide_eq_true (by first | (with_reducible assumption))
                obtain ⟨ad123, e123, hx123_0, hx123_1, hx123_2, hx123_3⟩ := at_T37 (Kd.R_reads' HO_7.out).2.2 a1 p123 q123
                obtain rfl : ad115 = ad123 := (by injection e123)
                have hn123_0 : ad115.block ≠ gb122 := Kd.own_blk (Kd.R_ne HO_7.out BK122.out (by decide))
                replace hx123_0 := (cell_far (p := ⟨gb122, 0, none⟩) (by first | (rw [add_block]; exact hn123_0)) (.slice Ao35 t116.length co35)).trans hx123_0
                replace hx123_1 := (cell_far (p := ⟨gb122, 0, none⟩) (by first | (rw [add_block]; exact hn123_0)) (.slice Ao35 t116.length co35)).trans hx123_1
                replace hx123_2 := (cell_far (p := ⟨gb122, 0, none⟩) (by first | (rw [add_block]; exact hn123_0)) (.slice Ao35 t116.length co35)).trans hx123_2
                replace hx123_3 := (cell_far (p := ⟨gb122, 0, none⟩) (by first | (rw [add_block]; exact hn123_0)) (.slice Ao35 t116.length co35)).trans hx123_3
                clear hn123_0
                replace p123 := eq_true p123
                replace q123 := eq_true q123
                go_wp2
                go_meet
                case rel => exact ⟨_, ((((t119.length : Int) == 0) != (((rd_T37 t103 a1).f1).toList == ([109, 111, 100, 117, 108, 101] : List UInt8)))), rfl, H', ⟨by have := HJ6.out; have := HJ24.out; first | omega⟩, ⟨by exact Kd.R_mono (Kd.R_far (p := ⟨gb122, 0, none⟩) (Kd.R_types HO121.out BK122.out (by decide)) (fun _ hk => hk.2) (.slice Ao35 t116.length co35)) (fun _ hk => trivial)⟩, ⟨by exact Kd.R_mono (Kd.R_far (p := ⟨gb122, 0, none⟩) (Kd.R_types HO_115000.out BK122.out (by decide)) (fun _ hk => hk.2) (.slice Ao35 t116.length co35)) (fun _ hk => hk.1.2)⟩, ⟨by exact Kd.R_mono (Kd.R_far (p := ⟨gb122, 0, none⟩) (Kd.R_types HO118.out BK122.out (by decide)) (fun _ hk => hk.2) (.slice Ao35 t116.length co35)) (fun _ hk => hk.1.2)⟩, ⟨by refine blk_far ?_ NB114_122.out _; exact BK114.out⟩, ⟨by refine blk_put (cs := #[.slice none 0 0]) ?_ 0 _ rfl; exact BK122.out⟩, ⟨by repeat (first | (with_reducible first | exact HB.out | refine below_set ?_ GE122.out))⟩⟩
               ·rw [if_neg c48] at H
                exact absurd H (by simp)
              ·rw [if_neg c47] at H
               exact absurd H (by simp)
           case rest =>
            clear HC32
            try clear c1
            try clear p1
            try clear q1
            try clear hx1
            try clear c2
            try clear p2
            try clear c3
            try clear c4
            try clear c5
            try clear c9
            try clear c10
            try clear c11
            try clear p11
            try clear q11
            try clear hx11
            try clear c12
            try clear p12
            try clear q12
            try clear hx12
            try clear c15
            try clear c15b0
            try clear c15b1
            try clear c16
            try clear c16b0
            try clear c16b1
            try clear c18
            try clear c18b0
            try clear c22
            try clear c23
            try clear c23b0
            try clear c24
            try clear c24b0
            try clear c27
            try clear c27b0
            try clear c28
            try clear c29
            try clear c29b0
            try clear c29b1
            try clear c30
            try clear c30b0
            try clear c30b1
            try clear c36
            try clear c38
            try clear c38b0
            try clear c38b1
            try clear c39
            try clear c42
            try clear c42b0
            try clear c42b1
            try clear c43
            try clear c47
            try clear c47b0
            try clear c48
            try clear c48b0
            try clear c49
            try clear hcz14_0
            try clear hcz37_0
            try clear hcz40_0
            try clear hcz41_0
            try clear hcz44_0
            try clear hcz45_0
            try clear hcz50_0
            try clear hcz51_0
            try clear hfz14_0
            try clear hfz37_0
            try clear hfz40_0
            try clear hfz41_0
            try clear hfz44_0
            try clear hfz45_0
            try clear hfz50_0
            try clear hfz51_0
            try clear hx115_0
            try clear hx115_1
            try clear hx115_2
            try clear hx115_3
            try clear hx123_0
            try clear hx123_1
            try clear hx123_2
            try clear hx123_3
            try clear p1
            try clear p11
            try clear p115
            try clear p123
            try clear p2
            try clear q1
            try clear q11
            try clear q115
            try clear q123
            obtain ⟨kq, x90_31, rfl, HA, HJ31, HO_14, HO_115000, HO_123000, BK114, BK122, HB⟩ := hcut
            cases kq with
            | zero => exact absurd HA.out (by simp [proofmarklaw02_SynCuts.j2])
            | succ kj31 =>
             have H := HA.out
             clear HA
             simp only [proofmarklaw02_SynCuts.j2] at H
             by_cases c53 : x90_31 = true
             ·subst c53
              have H1 : (some false) = some r := by rw [if_pos rfl] at H; exact H
              exact absurd (Option.some.inj H1) (by rw [HRT.out]; decide)
             ·replace c53 := Bool.eq_false_iff.mpr c53
              subst c53
              have H1 : (if (t119.length : Int) = 1 then (if 0 < (t119.length : Int) then (if (!(((rd_T35 t119 0).f0) == 21) || (!(((rd_T35 t119 0).f1) == ((rd_T37 t103 a1).f3)) || (!(((rd_T35 t119 0).f2) == 0) || (!(((rd_T35 t119 0).f3) == 0))))) = true then (some false) else (if t101 = true then (if 0 ≤ (t116.length : Int) then (if (t116.length : Int) ≤ (t108.length : Int) then ((proofmarkref02_Same.f t116 (t108.take ((t116.length : Int) : Int).toNat)).bind fun t129 => (some t129)) else (none)) else (none)) else (some false))) else (none)) else (if t101 = true then (if 0 ≤ (t116.length : Int) then (if (t116.length : Int) ≤ (t108.length : Int) then ((proofmarkref02_Same.f t116 (t108.take ((t116.length : Int) : Int).toNat)).bind fun t134 => (some t134)) else (none)) else (none)) else (some false))) = some r := by rw [if_neg (show ¬ (false = true) by decide)] at H; exact H
              clear H
              have H := H1
              clear H1
              by_cases c54 : (t119.length : Int) = 1
              ·rw [if_pos c54] at H
               have c54b0 : ((t119.length : Int) == 1) = true := beq_iff_eq.mpr c54
               have c54b1 : ((t119.length : Int) != 1) = false := bne_eq_false_iff_eq.mpr c54
               clear c54
               by_cases c55 : 0 < (t119.length : Int)
               ·rw [if_pos c55] at H
                have c55b0 : decide (0 < (t119.length : Int)) = true := decide_eq_true c55
                have c55b1 : decide (0 < t119.length) = true := decide_eq_true (by omega)
                clear c55
                by_cases c56 : (!(((rd_T35 t119 0).f0) == 21) || (!(((rd_T35 t119 0).f1) == ((rd_T37 t103 a1).f3)) || (!(((rd_T35 t119 0).f2) == 0) || (!(((rd_T35 t119 0).f3) == 0))))) = true
                ·rw [if_pos c56] at H; exact absurd (Option.some.inj H) (by rw [HRT.out]; decide)
                ·rw [if_neg c56] at H
                 have c56b0 : (!(((rd_T35 t119 0).f0) == 21) || (!(((rd_T35 t119 0).f1) == ((rd_T37 t103 a1).f3)) || (!(((rd_T35 t119 0).f2) == 0) || (!(((rd_T35 t119 0).f3) == 0))))) = false := by simpa using c56
                 have hz := c56b0
                 simp only [Bool.or_eq_false_iff, Bool.not_eq_false', beq_iff_eq] at hz
                 obtain ⟨z0, z1, z2, z3⟩ := hz
                 clear c56
                 by_cases c58 : t101 = true
                 ·subst c58
                  have H1 : (if 0 ≤ (t116.length : Int) then (if (t116.length : Int) ≤ (t108.length : Int) then ((proofmarkref02_Same.f t116 (t108.take ((t116.length : Int) : Int).toNat)).bind fun t129 => (some t129)) else (none)) else (none)) = some r := by rw [if_pos rfl] at H; exact H
                  clear H
                  have H := H1
                  clear H1
                  by_cases c59 : 0 ≤ (t116.length : Int)
                  ·rw [if_pos c59] at H
                   have c59b0 := eq_true c59
                   have c59b1 : decide (0 ≤ (t116.length : Int)) = true := decide_eq_true c59
                   clear c59
                   by_cases c60 : (t116.length : Int) ≤ (t108.length : Int)
                   ·rw [if_pos c60] at H
                    have c60b0 := eq_true c60
                    have c60b1 : decide ((t116.length : Int) ≤ (t108.length : Int)) = true := decide_eq_true c60
                    clear c60
                    obtain ⟨y125, hy125⟩ : ∃ y_ : List (S47), y_ = (t108.take ((t116.length : Int) : Int).toNat) := ⟨_, rfl⟩
                    replace H : ((proofmarkref02_Same.f t116 y125).bind fun t129 => (some t129)) = some r := by first | (rw [hy125]; with_reducible exact H)
                    have Ny125 := Aside0.mk hy125
                    clear hy125
                    replace H := Option.bind_eq_some_iff.mp H
                    obtain ⟨t129, A610, H⟩ := H
                    replace H : (some t129) = some r := H
                    have A61 := Aside0.mk A610
                    clear A610
                    obtain rfl := Option.some.inj H
                    obtain ⟨Ao62, co62, eo62⟩ := Kd.R_slice HO_14.out
                    subst eo62
                    have p124 : 0 ≤ (0 : Int) := (by omega)
                    have q124 : 0 < (t119.length : Int) := of_decide_eq_true (by first | (with_reducible assumption))
                    obtain ⟨ad124, e124, hx124_0, hx124_1, hx124_2, hx124_3⟩ := at_T35 (Kd.R_reads' HO_14.out).2.2 0 p124 q124
                    cases e124
                    have qi124 : (0 < t119.length) = True := eq_true (by omega)
                    (try rw [show ((0 : Int)).toNat = 0 from rfl] at hx124_0)
                    (try rw [show 0 * 4 = 0 from rfl] at hx124_0)
                    (try rw [Addr.add_zero'] at hx124_0)
                    (try rw [show ((0 : Int)).toNat = 0 from rfl] at hx124_1)
                    (try rw [show 0 * 4 = 0 from rfl] at hx124_1)
                    (try rw [Addr.add_zero'] at hx124_1)
                    (try rw [show ((0 : Int)).toNat = 0 from rfl] at hx124_2)
                    (try rw [show 0 * 4 = 0 from rfl] at hx124_2)
                    (try rw [Addr.add_zero'] at hx124_2)
                    (try rw [show ((0 : Int)).toNat = 0 from rfl] at hx124_3)
                    (try rw [show 0 * 4 = 0 from rfl] at hx124_3)
                    (try rw [Addr.add_zero'] at hx124_3)
                    replace p124 := eq_true p124
                    replace q124 := eq_true q124
                    try go_wp2
                    have n0_ := Aside0.mk (Kd.R_drew HO_14.out)
                    have n1_ := Aside0.mk (Kd.R_drew HO_115000.out)
                    have n2_ := Aside0.mk (Kd.R_drew HO_123000.out)
                    have n3_ := Aside0.mk (blk_drew BK114.out)
                    have n4_ := Aside0.mk (blk_drew BK122.out)
                    have n5_ := Aside0.mk (below_drew1 HB.out)
                    clear HO_14
                    clear HO_115000
                    clear HO_123000
                    clear BK114
                    clear BK122
                    clear HB
                    have HO_14 := n0_
                    have HO_115000 := n1_
                    have HO_123000 := n2_
                    have BK114 := n3_
                    have BK122 := n4_
                    have HB := n5_
                    clear n0_ n1_ n2_ n3_ n4_ n5_
                    have q64 : ((t116.length : Int) : Int) ≤ ((t108.length : Int) : Int) := of_decide_eq_true (by first | (with_reducible assumption))
                    obtain ⟨i064, hi064, _, hsz64, _⟩ := info_parts info47
                    have hroom64 : t108.length ≤ co13 := (Kd.R_reads' HO_115000.out).2.1
                    have hC64 : Kd.C k47 _ Ao13 t108.length t108 := (Kd.R_reads' HO_115000.out).2.2
                    have hcut64 := cut_to (P := Tryd.prog) 24 47 .i64 Tryd.underlying24 hi064 Ao13 t108.length co13 (t116.length : Int) (of_decide_eq_true (by first | (with_reducible assumption))) q64 hroom64
                    have hr64 := Kd.C_take (m := ((t116.length : Int) : Int).toNat) hC64 (by omega)
                    have hy64 : y125.length = ((t116.length : Int) : Int).toNat := (by rw [Ny125.out, List.length_take]; omega)
                    rw [← Ny125.out] at hr64
                    rw [← hy64] at hcut64
                    have HR128 := Aside0.mk hr64
                    have HC128 := Aside0.mk (show y125.length ≤ co13 from by omega)
                    clear hr64 hC64 hroom64 hi064 hsz64
                    have KY64 := Aside0.mk hy64
                    clear hy64
                    have KL64 := Aside0.mk (show ((t116.length : Int) : Int).toNat ≤ t108.length from by omega)
                    replace q64 := eq_true q64
                    refine start_ (n := 13) (S := fun w' => w'.cell? ⟨gb122, 0, none⟩ = some (.slice Ao35 t116.length co35) ∧ w'.cell? ⟨gb114, 0, none⟩ = some (.slice Ao13 t108.length co13)) (ds := []) #[false, false, false, false, false, false, false, false, false, false, false, false, false] (by kernel_rfl) rfl rfl ⟨(blk_cell BK122.out 0).trans rfl, (blk_cell BK114.out 0).trans rfl⟩ (fun hHeld => ?_); refine with_tabW proofmarklaw02_SynCuts.tab15 proofmarklaw02_SynCuts.bits15 (fun HT_ HW_ => ?_)
                    generalize wc.drew = w63 at HO_14 HO_115000 HO_123000 BK114 BK122 HB HR128 hHeld ⊢
                    refine pure_ (i := 0) (N := some 102) (v := ?_) (a' := ?_) #[true, false, false, false, false, false, false, false, false, false, false, false, false] rfl rfl (any_of HT_.out (by kernel_rfl)) (fun _ _ _ h => h) (Or.inl ⟨by rfl, ?_⟩) ?_ ?_
                    rotate_left
                    ·intro w'
                     go_simp
                     with_reducible rfl
                    rotate_left
                    ·simp only [Act.put, List.setIfInBounds_toArray, List.set_cons_zero, List.set_cons_succ, i64_w, i32_w]
                     rfl
                    refine pure_ (i := 1) (N := some 103) (v := ?_) (a' := ?_) #[true, true, false, false, false, false, false, false, false, false, false, false, false] rfl rfl (any_of HT_.out (by kernel_rfl)) (fun _ _ _ h => h) (Or.inl ⟨by rfl, ?_⟩) ?_ ?_
                    rotate_left
                    ·intro w'
                     go_simp
                     with_reducible rfl
                    rotate_left
                    ·simp only [Act.put, List.setIfInBounds_toArray, List.set_cons_zero, List.set_cons_succ, i64_w, i32_w]
                     rfl
                    refine pure_ (i := 3) (N := some 105) (v := ?_) (a' := ?_) #[true, true, false, true, false, false, false, false, false, false, false, false, false] rfl rfl (any_of HT_.out (by kernel_rfl)) (fun _ _ _ h => h) (Or.inl ⟨by rfl, ?_⟩) ?_ ?_
                    rotate_left
                    ·intro w'
                     go_simp
                     with_reducible rfl
                    rotate_left
                    ·simp only [Act.put, List.setIfInBounds_toArray, List.set_cons_zero, List.set_cons_succ, i64_w, i32_w]
                     rfl
                    refine pure_ (i := 5) (N := some 107) (v := ?_) (a' := ?_) #[true, true, false, true, false, true, false, false, false, false, false, false, false] rfl rfl (any_of HT_.out (by kernel_rfl)) (fun _ _ _ h => h) (Or.inl ⟨by rfl, ?_⟩) ?_ ?_
                    rotate_left
                    ·intro w'
                     go_simp
                     with_reducible rfl
                    rotate_left
                    ·simp only [Act.put, List.setIfInBounds_toArray, List.set_cons_zero, List.set_cons_succ, i64_w, i32_w]
                     rfl
                    refine take_ (i := 2) (N := some 104) (v := ?_) (a' := ?_) #[true, true, true, true, false, true, false, false, false, false, false, false, false] rfl rfl (take_ofW HT_.out HW_.out (by kernel_rfl)) (fun _ _ _ h => h) (Or.inl ⟨by rfl, ?_⟩) hHeld ?_ ?_
                    rotate_left
                    ·rintro w' ⟨s0, s1⟩
                     go_simp
                     with_reducible rfl
                    rotate_left
                    ·simp only [Act.put, List.setIfInBounds_toArray, List.set_cons_zero, List.set_cons_succ, i64_w, i32_w]
                     rfl
                    refine take_ (i := 4) (N := some 106) (v := ?_) (a' := ?_) #[true, true, true, true, true, true, false, false, false, false, false, false, false] rfl rfl (take_ofW HT_.out HW_.out (by kernel_rfl)) (fun _ _ _ h => h) (Or.inl ⟨by rfl, ?_⟩) hHeld ?_ ?_
                    rotate_left
                    ·rintro w' ⟨s0, s1⟩
                     go_simp
                     with_reducible rfl
                    rotate_left
                    ·simp only [Act.put, List.setIfInBounds_toArray, List.set_cons_zero, List.set_cons_succ, i64_w, i32_w]
                     rfl
                    refine take_ (i := 6) (N := some 108) (v := ?_) (a' := ?_) #[true, true, true, true, true, true, true, false, false, false, false, false, false] rfl rfl (take_ofW HT_.out HW_.out (by kernel_rfl)) (fun _ _ _ h => h) (Or.inl ⟨by rfl, ?_⟩) hHeld ?_ ?_
                    rotate_left
                    ·rintro w' ⟨s0, s1⟩
                     go_simp
                     with_reducible rfl
                    rotate_left
                    ·simp only [Act.put, List.setIfInBounds_toArray, List.set_cons_zero, List.set_cons_succ, i64_w, i32_w]
                     rfl
                    refine pure_ (i := 7) (N := some 109) (v := ?_) (a' := ?_) #[true, true, true, true, true, true, true, true, false, false, false, false, false] rfl rfl (any_of HT_.out (by kernel_rfl)) (fun _ _ _ h => h) (Or.inl ⟨by rfl, ?_⟩) ?_ ?_
                    rotate_left
                    ·intro w'
                     go_simp
                     with_reducible rfl
                    rotate_left
                    ·simp only [Act.put, List.setIfInBounds_toArray, List.set_cons_zero, List.set_cons_succ, i64_w, i32_w]
                     rfl
                    refine pure_ (i := 8) (N := some 110) (v := ?_) (a' := ?_) #[true, true, true, true, true, true, true, true, true, false, false, false, false] rfl rfl (any_of HT_.out (by kernel_rfl)) (fun _ _ _ h => h) (Or.inl ⟨by rfl, ?_⟩) ?_ ?_
                    rotate_left
                    ·intro w'
                     go_simp
                     with_reducible rfl
                    rotate_left
                    ·simp only [Act.put, List.setIfInBounds_toArray, List.set_cons_zero, List.set_cons_succ, i64_w, i32_w]
                     rfl
                    refine pure_ (i := 9) (N := some 111) (v := ?_) (a' := ?_) #[true, true, true, true, true, true, true, true, true, true, false, false, false] rfl rfl (any_of HT_.out (by kernel_rfl)) (fun _ _ _ h => h) (Or.inl ⟨by rfl, ?_⟩) ?_ ?_
                    rotate_left
                    ·intro w'
                     go_simp
                     with_reducible rfl
                    rotate_left
                    ·simp only [Act.put, List.setIfInBounds_toArray, List.set_cons_zero, List.set_cons_succ, i64_w, i32_w]
                     rfl
                    refine one_ (i := 10) (N := some 112) #[true, true, true, true, true, true, true, true, true, true, true, false, false] rfl rfl (one_of HT_.out (by kernel_rfl)) (by decide) (fun K hK => ?_)
                    refine goes_ Tryd.func13 (by kernel_rfl) rfl #[.agg #[.slice Ao35 t116.length co35], .agg #[.slice Ao13 y125.length co13]] (by rfl) rfl rfl (by (try simp only [List.map_toArray, List.map_cons, List.map_nil]); first | rfl) ?_
                    with_reducible refine (proofmarkref02_Same.calls _ _ t116 _ _ y125 t129 _ ?side1 ?side2 ?side3 ?side4 A61.out).mono ?_
                    (case side1 => repeat (first | exact (Kd.R_reads' HO_123000.out).2.2))
                    (case side2 => exact (Kd.R_reads' HO_123000.out).2.1)
                    (case side3 => repeat (first | exact (by repeat (first | (with_reducible exact HR128.out)))))
                    (case side4 => exact HC128.out)
                    rintro e w65 ⟨rfl, hb⟩
                    refine ⟨_, rfl, ?_⟩
                    have n0_ := Aside0.mk (Kd.R_below HO_14.out hb)
                    have n1_ := Aside0.mk (Kd.R_below HO_115000.out hb)
                    have n2_ := Aside0.mk (Kd.R_below HO_123000.out hb)
                    have n3_ := Aside0.mk (blk_below BK114.out hb)
                    have n4_ := Aside0.mk (blk_below BK122.out hb)
                    have n5_ := Aside0.mk (Kd.C_below (by repeat (first | (with_reducible exact HR128.out))) hb)
                    have n6_ := Aside0.mk (below_step HB.out hb)
                    clear HO_14
                    clear HO_115000
                    clear HO_123000
                    clear BK114
                    clear BK122
                    clear HR128
                    clear HB
                    have HO_14 := n0_
                    have HO_115000 := n1_
                    have HO_123000 := n2_
                    have BK114 := n3_
                    have BK122 := n4_
                    have HR128 := n5_
                    have HB := n6_
                    clear n0_ n1_ n2_ n3_ n4_ n5_ n6_
                    (try clear hb)
                    (try clear hb2)
                    (try clear hk)
                    (try clear hi)
                    refine hK.out _ _ ⟨(blk_cell BK122.out 0).trans rfl, (blk_cell BK114.out 0).trans rfl⟩ (fun hHeld => ?_)
                    clear hK K
                    refine norm_ (a' := ?_) ?_ ?_
                    rotate_left
                    ·show Act.put _ (some 112) _ = _
                     simp only [Act.put, List.setIfInBounds_toArray, List.set_cons_zero, List.set_cons_succ, i64_w, i32_w]
                     rfl
                    refine pure_ (i := 11) (N := some 113) (v := ?_) (a' := ?_) #[true, true, true, true, true, true, true, true, true, true, true, true, false] rfl rfl (any_of HT_.out (by kernel_rfl)) (fun _ _ _ h => h) (Or.inl ⟨by rfl, ?_⟩) ?_ ?_
                    rotate_left
                    ·intro w'
                     go_simp
                     with_reducible rfl
                    rotate_left
                    ·simp only [Act.put, List.setIfInBounds_toArray, List.set_cons_zero, List.set_cons_succ, i64_w, i32_w]
                     rfl
                    refine pure_ (i := 12) (N := some 4) (v := ?_) (a' := ?_) #[true, true, true, true, true, true, true, true, true, true, true, true, true] rfl rfl (any_of HT_.out (by kernel_rfl)) (fun _ _ _ h => h) (Or.inl ⟨by rfl, ?_⟩) ?_ ?_
                    rotate_left
                    ·intro w'
                     go_simp
                     with_reducible rfl
                    rotate_left
                    ·simp only [Act.put, List.setIfInBounds_toArray, List.set_cons_zero, List.set_cons_succ, i64_w, i32_w]
                     rfl
                    refine done_ (done_of HT_.out (by kernel_rfl)) ?_
                    try go_wp2
                    all_goals (go_ret; exact ⟨by first | rfl, by exact HB.out⟩)
                   ·rw [if_neg c60] at H
                    exact absurd H (by simp)
                  ·rw [if_neg c59] at H
                   exact absurd H (by simp)
                 ·replace c58 := Bool.eq_false_iff.mpr c58
                  subst c58
                  have H1 : (some false) = some r := by rw [if_neg (show ¬ (false = true) by decide)] at H; exact H
                  exact absurd (Option.some.inj H1) (by rw [HRT.out]; decide)
               ·rw [if_neg c55] at H
                exact absurd H (by simp)
              ·rw [if_neg c54] at H
               have c54b0 : ((t119.length : Int) == 1) = false := beq_eq_false_iff_ne.mpr c54
               have c54b1 : ((t119.length : Int) != 1) = true := bne_iff_ne.mpr c54
               by_cases c68 : t101 = true
               ·subst c68
                have H1 : (if 0 ≤ (t116.length : Int) then (if (t116.length : Int) ≤ (t108.length : Int) then ((proofmarkref02_Same.f t116 (t108.take ((t116.length : Int) : Int).toNat)).bind fun t134 => (some t134)) else (none)) else (none)) = some r := by rw [if_pos rfl] at H; exact H
                clear H
                have H := H1
                clear H1
                by_cases c69 : 0 ≤ (t116.length : Int)
                ·rw [if_pos c69] at H
                 have c69b0 := eq_true c69
                 have c69b1 : decide (0 ≤ (t116.length : Int)) = true := decide_eq_true c69
                 clear c69
                 by_cases c70 : (t116.length : Int) ≤ (t108.length : Int)
                 ·rw [if_pos c70] at H
                  have c70b0 := eq_true c70
                  have c70b1 : decide ((t116.length : Int) ≤ (t108.length : Int)) = true := decide_eq_true c70
                  clear c70
                  obtain ⟨y130, hy130⟩ : ∃ y_ : List (S47), y_ = (t108.take ((t116.length : Int) : Int).toNat) := ⟨_, rfl⟩
                  replace H : ((proofmarkref02_Same.f t116 y130).bind fun t134 => (some t134)) = some r := by first | (rw [hy130]; with_reducible exact H)
                  have Ny130 := Aside0.mk hy130
                  clear hy130
                  replace H := Option.bind_eq_some_iff.mp H
                  obtain ⟨t134, A710, H⟩ := H
                  replace H : (some t134) = some r := H
                  have A71 := Aside0.mk A710
                  clear A710
                  obtain rfl := Option.some.inj H
                  obtain ⟨Ao72, co72, eo72⟩ := Kd.R_slice HO_14.out
                  subst eo72
                  try go_wp2
                  have n0_ := Aside0.mk (Kd.R_drew HO_14.out)
                  have n1_ := Aside0.mk (Kd.R_drew HO_115000.out)
                  have n2_ := Aside0.mk (Kd.R_drew HO_123000.out)
                  have n3_ := Aside0.mk (blk_drew BK114.out)
                  have n4_ := Aside0.mk (blk_drew BK122.out)
                  have n5_ := Aside0.mk (below_drew1 HB.out)
                  clear HO_14
                  clear HO_115000
                  clear HO_123000
                  clear BK114
                  clear BK122
                  clear HB
                  have HO_14 := n0_
                  have HO_115000 := n1_
                  have HO_123000 := n2_
                  have BK114 := n3_
                  have BK122 := n4_
                  have HB := n5_
                  clear n0_ n1_ n2_ n3_ n4_ n5_
                  have q74 : ((t116.length : Int) : Int) ≤ ((t108.length : Int) : Int) := of_decide_eq_true (by first | (with_reducible assumption))
                  obtain ⟨i074, hi074, _, hsz74, _⟩ := info_parts info47
                  have hroom74 : t108.length ≤ co13 := (Kd.R_reads' HO_115000.out).2.1
                  have hC74 : Kd.C k47 _ Ao13 t108.length t108 := (Kd.R_reads' HO_115000.out).2.2
                  have hcut74 := cut_to (P := Tryd.prog) 24 47 .i64 Tryd.underlying24 hi074 Ao13 t108.length co13 (t116.length : Int) (of_decide_eq_true (by first | (with_reducible assumption))) q74 hroom74
                  have hr74 := Kd.C_take (m := ((t116.length : Int) : Int).toNat) hC74 (by omega)
                  have hy74 : y130.length = ((t116.length : Int) : Int).toNat := (by rw [Ny130.out, List.length_take]; omega)
                  rw [← Ny130.out] at hr74
                  rw [← hy74] at hcut74
                  have HR133 := Aside0.mk hr74
                  have HC133 := Aside0.mk (show y130.length ≤ co13 from by omega)
                  clear hr74 hC74 hroom74 hi074 hsz74
                  have KY74 := Aside0.mk hy74
                  clear hy74
                  have KL74 := Aside0.mk (show ((t116.length : Int) : Int).toNat ≤ t108.length from by omega)
                  replace q74 := eq_true q74
                  refine start_ (n := 13) (S := fun w' => w'.cell? ⟨gb122, 0, none⟩ = some (.slice Ao35 t116.length co35) ∧ w'.cell? ⟨gb114, 0, none⟩ = some (.slice Ao13 t108.length co13)) (ds := []) #[false, false, false, false, false, false, false, false, false, false, false, false, false] (by kernel_rfl) rfl rfl ⟨(blk_cell BK122.out 0).trans rfl, (blk_cell BK114.out 0).trans rfl⟩ (fun hHeld => ?_); refine with_tabW proofmarklaw02_SynCuts.tab15 proofmarklaw02_SynCuts.bits15 (fun HT_ HW_ => ?_)
                  generalize wc.drew = w73 at HO_14 HO_115000 HO_123000 BK114 BK122 HB HR133 hHeld ⊢
                  refine pure_ (i := 0) (N := some 102) (v := ?_) (a' := ?_) #[true, false, false, false, false, false, false, false, false, false, false, false, false] rfl rfl (any_of HT_.out (by kernel_rfl)) (fun _ _ _ h => h) (Or.inl ⟨by rfl, ?_⟩) ?_ ?_
                  rotate_left
                  ·intro w'
                   go_simp
                   with_reducible rfl
                  rotate_left
                  ·simp only [Act.put, List.setIfInBounds_toArray, List.set_cons_zero, List.set_cons_succ, i64_w, i32_w]
                   rfl
                  refine pure_ (i := 1) (N := some 103) (v := ?_) (a' := ?_) #[true, true, false, false, false, false, false, false, false, false, false, false, false] rfl rfl (any_of HT_.out (by kernel_rfl)) (fun _ _ _ h => h) (Or.inl ⟨by rfl, ?_⟩) ?_ ?_
                  rotate_left
                  ·intro w'
                   go_simp
                   with_reducible rfl
                  rotate_left
                  ·simp only [Act.put, List.setIfInBounds_toArray, List.set_cons_zero, List.set_cons_succ, i64_w, i32_w]
                   rfl
                  refine pure_ (i := 3) (N := some 105) (v := ?_) (a' := ?_) #[true, true, false, true, false, false, false, false, false, false, false, false, false] rfl rfl (any_of HT_.out (by kernel_rfl)) (fun _ _ _ h => h) (Or.inl ⟨by rfl, ?_⟩) ?_ ?_
                  rotate_left
                  ·intro w'
                   go_simp
                   with_reducible rfl
                  rotate_left
                  ·simp only [Act.put, List.setIfInBounds_toArray, List.set_cons_zero, List.set_cons_succ, i64_w, i32_w]
                   rfl
                  refine pure_ (i := 5) (N := some 107) (v := ?_) (a' := ?_) #[true, true, false, true, false, true, false, false, false, false, false, false, false] rfl rfl (any_of HT_.out (by kernel_rfl)) (fun _ _ _ h => h) (Or.inl ⟨by rfl, ?_⟩) ?_ ?_
                  rotate_left
                  ·intro w'
                   go_simp
                   with_reducible rfl
                  rotate_left
                  ·simp only [Act.put, List.setIfInBounds_toArray, List.set_cons_zero, List.set_cons_succ, i64_w, i32_w]
                   rfl
                  refine take_ (i := 2) (N := some 104) (v := ?_) (a' := ?_) #[true, true, true, true, false, true, false, false, false, false, false, false, false] rfl rfl (take_ofW HT_.out HW_.out (by kernel_rfl)) (fun _ _ _ h => h) (Or.inl ⟨by rfl, ?_⟩) hHeld ?_ ?_
                  rotate_left
                  ·rintro w' ⟨s0, s1⟩
                   go_simp
                   with_reducible rfl
                  rotate_left
                  ·simp only [Act.put, List.setIfInBounds_toArray, List.set_cons_zero, List.set_cons_succ, i64_w, i32_w]
                   rfl
                  refine take_ (i := 4) (N := some 106) (v := ?_) (a' := ?_) #[true, true, true, true, true, true, false, false, false, false, false, false, false] rfl rfl (take_ofW HT_.out HW_.out (by kernel_rfl)) (fun _ _ _ h => h) (Or.inl ⟨by rfl, ?_⟩) hHeld ?_ ?_
                  rotate_left
                  ·rintro w' ⟨s0, s1⟩
                   go_simp
                   with_reducible rfl
                  rotate_left
                  ·simp only [Act.put, List.setIfInBounds_toArray, List.set_cons_zero, List.set_cons_succ, i64_w, i32_w]
                   rfl
                  refine take_ (i := 6) (N := some 108) (v := ?_) (a' := ?_) #[true, true, true, true, true, true, true, false, false, false, false, false, false] rfl rfl (take_ofW HT_.out HW_.out (by kernel_rfl)) (fun _ _ _ h => h) (Or.inl ⟨by rfl, ?_⟩) hHeld ?_ ?_
                  rotate_left
                  ·rintro w' ⟨s0, s1⟩
                   go_simp
                   with_reducible rfl
                  rotate_left
                  ·simp only [Act.put, List.setIfInBounds_toArray, List.set_cons_zero, List.set_cons_succ, i64_w, i32_w]
                   rfl
                  refine pure_ (i := 7) (N := some 109) (v := ?_) (a' := ?_) #[true, true, true, true, true, true, true, true, false, false, false, false, false] rfl rfl (any_of HT_.out (by kernel_rfl)) (fun _ _ _ h => h) (Or.inl ⟨by rfl, ?_⟩) ?_ ?_
                  rotate_left
                  ·intro w'
                   go_simp
                   with_reducible rfl
                  rotate_left
                  ·simp only [Act.put, List.setIfInBounds_toArray, List.set_cons_zero, List.set_cons_succ, i64_w, i32_w]
                   rfl
                  refine pure_ (i := 8) (N := some 110) (v := ?_) (a' := ?_) #[true, true, true, true, true, true, true, true, true, false, false, false, false] rfl rfl (any_of HT_.out (by kernel_rfl)) (fun _ _ _ h => h) (Or.inl ⟨by rfl, ?_⟩) ?_ ?_
                  rotate_left
                  ·intro w'
                   go_simp
                   with_reducible rfl
                  rotate_left
                  ·simp only [Act.put, List.setIfInBounds_toArray, List.set_cons_zero, List.set_cons_succ, i64_w, i32_w]
                   rfl
                  refine pure_ (i := 9) (N := some 111) (v := ?_) (a' := ?_) #[true, true, true, true, true, true, true, true, true, true, false, false, false] rfl rfl (any_of HT_.out (by kernel_rfl)) (fun _ _ _ h => h) (Or.inl ⟨by rfl, ?_⟩) ?_ ?_
                  rotate_left
                  ·intro w'
                   go_simp
                   with_reducible rfl
                  rotate_left
                  ·simp only [Act.put, List.setIfInBounds_toArray, List.set_cons_zero, List.set_cons_succ, i64_w, i32_w]
                   rfl
                  refine one_ (i := 10) (N := some 112) #[true, true, true, true, true, true, true, true, true, true, true, false, false] rfl rfl (one_of HT_.out (by kernel_rfl)) (by decide) (fun K hK => ?_)
                  refine goes_ Tryd.func13 (by kernel_rfl) rfl #[.agg #[.slice Ao35 t116.length co35], .agg #[.slice Ao13 y130.length co13]] (by rfl) rfl rfl (by (try simp only [List.map_toArray, List.map_cons, List.map_nil]); first | rfl) ?_
                  with_reducible refine (proofmarkref02_Same.calls _ _ t116 _ _ y130 t134 _ ?side1 ?side2 ?side3 ?side4 A71.out).mono ?_
                  (case side1 => repeat (first | exact (Kd.R_reads' HO_123000.out).2.2))
                  (case side2 => exact (Kd.R_reads' HO_123000.out).2.1)
                  (case side3 => repeat (first | exact (by repeat (first | (with_reducible exact HR133.out)))))
                  (case side4 => exact HC133.out)
                  rintro e w75 ⟨rfl, hb⟩
                  refine ⟨_, rfl, ?_⟩
                  have n0_ := Aside0.mk (Kd.R_below HO_14.out hb)
                  have n1_ := Aside0.mk (Kd.R_below HO_115000.out hb)
                  have n2_ := Aside0.mk (Kd.R_below HO_123000.out hb)
                  have n3_ := Aside0.mk (blk_below BK114.out hb)
                  have n4_ := Aside0.mk (blk_below BK122.out hb)
                  have n5_ := Aside0.mk (Kd.C_below (by repeat (first | (with_reducible exact HR133.out))) hb)
                  have n6_ := Aside0.mk (below_step HB.out hb)
                  clear HO_14
                  clear HO_115000
                  clear HO_123000
                  clear BK114
                  clear BK122
                  clear HR133
                  clear HB
                  have HO_14 := n0_
                  have HO_115000 := n1_
                  have HO_123000 := n2_
                  have BK114 := n3_
                  have BK122 := n4_
                  have HR133 := n5_
                  have HB := n6_
                  clear n0_ n1_ n2_ n3_ n4_ n5_ n6_
                  (try clear hb)
                  (try clear hb2)
                  (try clear hk)
                  (try clear hi)
                  refine hK.out _ _ ⟨(blk_cell BK122.out 0).trans rfl, (blk_cell BK114.out 0).trans rfl⟩ (fun hHeld => ?_)
                  clear hK K
                  refine norm_ (a' := ?_) ?_ ?_
                  rotate_left
                  ·show Act.put _ (some 112) _ = _
                   simp only [Act.put, List.setIfInBounds_toArray, List.set_cons_zero, List.set_cons_succ, i64_w, i32_w]
                   rfl
                  refine pure_ (i := 11) (N := some 113) (v := ?_) (a' := ?_) #[true, true, true, true, true, true, true, true, true, true, true, true, false] rfl rfl (any_of HT_.out (by kernel_rfl)) (fun _ _ _ h => h) (Or.inl ⟨by rfl, ?_⟩) ?_ ?_
                  rotate_left
                  ·intro w'
                   go_simp
                   with_reducible rfl
                  rotate_left
                  ·simp only [Act.put, List.setIfInBounds_toArray, List.set_cons_zero, List.set_cons_succ, i64_w, i32_w]
                   rfl
                  refine pure_ (i := 12) (N := some 4) (v := ?_) (a' := ?_) #[true, true, true, true, true, true, true, true, true, true, true, true, true] rfl rfl (any_of HT_.out (by kernel_rfl)) (fun _ _ _ h => h) (Or.inl ⟨by rfl, ?_⟩) ?_ ?_
                  rotate_left
                  ·intro w'
                   go_simp
                   with_reducible rfl
                  rotate_left
                  ·simp only [Act.put, List.setIfInBounds_toArray, List.set_cons_zero, List.set_cons_succ, i64_w, i32_w]
                   rfl
                  refine done_ (done_of HT_.out (by kernel_rfl)) ?_
                  try go_wp2
                  all_goals (go_ret; exact ⟨by first | rfl, by exact HB.out⟩)
                 ·rw [if_neg c70] at H
                  exact absurd H (by simp)
                ·rw [if_neg c69] at H
                 exact absurd H (by simp)
               ·replace c68 := Bool.eq_false_iff.mpr c68
                subst c68
                have H1 : (some false) = some r := by rw [if_neg (show ¬ (false = true) by decide)] at H; exact H
                exact absurd (Option.some.inj H1) (by rw [HRT.out]; decide)
          ·rw [if_neg c30] at H
           exact absurd H (by simp)
         ·rw [if_neg c29] at H
          exact absurd H (by simp)
     ·rw [if_neg c24] at H
      exact absurd H (by simp)
    ·rw [if_neg c23] at H
     exact absurd H (by simp)
def proofmarklaw02_SynCuts.Pure : Prop := ∀ (a0 : ByteArray) (a1 : Int), a0.size ≤ 140737488351232 → (Lit.int .i64 a1).wf = true → ∃ k, proofmarklaw02_SynCuts.f k a0 a1 = some true
theorem proofmarklaw02_SynCuts.walk (P : proofmarklaw02_SynCuts.Pure) (a0 : ByteArray) (a1 : Int) (w : World) (hG : Tab w) (w0 : a0.size ≤ 140737488351232) (w1 : (Lit.int .i64 a1).wf = true) :
  Calls Tryd.prog 5 #[.string a0, .int .i64 a1] w fun e w' => e = .returned (.bool true) ∧ Below w.heap.size w w' := by
 obtain ⟨k, h⟩ := P a0 a1 w0 w1
 refine (proofmarklaw02_SynCuts.calls1 k a0 a1 true w hG h rfl).mono ?_
 rintro e w' ⟨rfl, hd⟩
 exact ⟨rfl, hd⟩
end Go.Proofs.YtenogedclignmaaDoor.Q
