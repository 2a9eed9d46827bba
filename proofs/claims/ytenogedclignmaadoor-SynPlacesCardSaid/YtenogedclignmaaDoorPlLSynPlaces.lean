/-
  HELPER.
-/
import Derived.Test.YtenogedclignmaaDoorPlK24
namespace Go.Proofs.YtenogedclignmaaDoor.Q
open Go.RowKit Go.Proofs.YtenogedclignmaaDoorW.PrintWords Go.Proofs.YtenogedclignmaaDoorW.PrintLast Go.Proofs.YtenogedclignmaaDoorW.PrintMore
attribute [local go_sem] max2_int min2_int max_two min_two
set_option linter.unusedVariables false
set_option linter.unusedSimpArgs false
mutual
def proofmarklaw02_SynPlaces.l0 : Nat → Bool → ByteArray → List (S35) → List (S37) → Int → Option (Bool)
  | 0, _, _, _, _, _ => none
  | k + 1, x3, x4, x6, x7, x10 => if x10 < (x6.length : Int) then (if 0 ≤ x10 then (proofmarklaw02_SynPlaces.l1 k x3 x4 x6 x7 x10 false 0 ((rd_T35 x6 x10).f0) ((rd_T35 x6 x10).f1) ((rd_T35 x6 x10).f2) ((rd_T35 x6 x10).f3)) else (none)) else (some x3)
def proofmarklaw02_SynPlaces.l1 : Nat → Bool → ByteArray → List (S35) → List (S37) → Int → Bool → Int → Int → Int → Int → Int → Option (Bool)
  | 0, _, _, _, _, _, _, _, _, _, _, _ => none
  | k + 1, x3, x4, x6, x7, x10, x12, x13, x118000, x118001, x118002, x118003 => if x13 < (x7.length : Int) then (if x12 = true then (proofmarklaw02_SynPlaces.l1 k x3 x4 x6 x7 x10 true (wrap64 (x13 + 1)) x118000 x118001 x118002 x118003) else (if 0 ≤ x13 then (proofmarklaw02_SynPlaces.l1 k x3 x4 x6 x7 x10 (((rd_T37 x7 x13).f3) == x118001) (wrap64 (x13 + 1)) x118000 x118001 x118002 x118003) else (none))) else (if x118000 = 21 then (if x118001 = (x4.size : Int) then (if x10 > 0 then (if 0 ≤ (wrap64 (x10 - 1)) then (if (wrap64 (x10 - 1)) < (x6.length : Int) then (if x118001 < ((rd_T35 x6 (wrap64 (x10 - 1))).f1) then (some false) else (if x118002 = 0 then (if x118003 = 0 then (if (x10 = (wrap64 ((x6.length : Int) - 1))) then (proofmarklaw02_SynPlaces.l0 k x3 x4 x6 x7 (wrap64 (x10 + 1))) else (if x12 = true then (if x118000 = 20 then (proofmarklaw02_SynPlaces.l0 k x3 x4 x6 x7 (wrap64 (x10 + 1))) else (if x118000 = 2 then (proofmarklaw02_SynPlaces.l0 k x3 x4 x6 x7 (wrap64 (x10 + 1))) else (some false))) else (some false))) else (some false)) else (some false))) else (none)) else (none)) else (if x118002 = 0 then (if x118003 = 0 then (if (x10 = (wrap64 ((x6.length : Int) - 1))) then (proofmarklaw02_SynPlaces.l0 k x3 x4 x6 x7 (wrap64 (x10 + 1))) else (if x12 = true then (if x118000 = 20 then (proofmarklaw02_SynPlaces.l0 k x3 x4 x6 x7 (wrap64 (x10 + 1))) else (if x118000 = 2 then (proofmarklaw02_SynPlaces.l0 k x3 x4 x6 x7 (wrap64 (x10 + 1))) else (some false))) else (some false))) else (some false)) else (some false))) else (if x10 > 0 then (if 0 ≤ (wrap64 (x10 - 1)) then (if (wrap64 (x10 - 1)) < (x6.length : Int) then (if x118001 < ((rd_T35 x6 (wrap64 (x10 - 1))).f1) then (some false) else (if x118002 = 0 then (if x118003 = 0 then (if x12 = true then (if x118000 = 20 then (proofmarklaw02_SynPlaces.l0 k x3 x4 x6 x7 (wrap64 (x10 + 1))) else (if x118000 = 2 then (proofmarklaw02_SynPlaces.l0 k x3 x4 x6 x7 (wrap64 (x10 + 1))) else (some false))) else (some false)) else (some false)) else (some false))) else (none)) else (none)) else (if x118002 = 0 then (if x118003 = 0 then (if x12 = true then (if x118000 = 20 then (proofmarklaw02_SynPlaces.l0 k x3 x4 x6 x7 (wrap64 (x10 + 1))) else (if x118000 = 2 then (proofmarklaw02_SynPlaces.l0 k x3 x4 x6 x7 (wrap64 (x10 + 1))) else (some false))) else (some false)) else (some false)) else (some false)))) else (if x10 > 0 then (if 0 ≤ (wrap64 (x10 - 1)) then (if (wrap64 (x10 - 1)) < (x6.length : Int) then (if x118001 < ((rd_T35 x6 (wrap64 (x10 - 1))).f1) then (some false) else (if x118002 = 0 then (if x118003 = 0 then (if x12 = true then (if x118000 = 20 then (proofmarklaw02_SynPlaces.l0 k x3 x4 x6 x7 (wrap64 (x10 + 1))) else (if x118000 = 2 then (proofmarklaw02_SynPlaces.l0 k x3 x4 x6 x7 (wrap64 (x10 + 1))) else (some false))) else (some false)) else (some false)) else (some false))) else (none)) else (none)) else (if x118002 = 0 then (if x118003 = 0 then (if x12 = true then (if x118000 = 20 then (proofmarklaw02_SynPlaces.l0 k x3 x4 x6 x7 (wrap64 (x10 + 1))) else (if x118000 = 2 then (proofmarklaw02_SynPlaces.l0 k x3 x4 x6 x7 (wrap64 (x10 + 1))) else (some false))) else (some false)) else (some false)) else (some false))))
end
def proofmarklaw02_SynPlaces.f (k : Nat) (a0 : ByteArray) : Option (Bool) := (proofmarklaw02_head.f).bind fun t101 => ((proofmarklaw02_few.f a0).bind fun t102 => ((syn_Parse.f t102).bind fun bt103 => ((lex_Lex.f t102).bind fun bt110 => (if bt110.2.1 = 0 then (if (bt103.2.length : Int) > 20 then (some false) else (proofmarklaw02_SynPlaces.l0 k t101 t102 bt103.2 bt110.1 0)) else (if t101 = true then (if (bt103.2.length : Int) = 1 then (if 0 < (bt103.2.length : Int) then (some (((rd_T35 bt103.2 0).f0) == bt110.2.1 && (((rd_T35 bt103.2 0).f1) == bt110.2.2 && (((rd_T35 bt103.2 0).f2) == 0 && (((rd_T35 bt103.2 0).f3) == 0))))) else (none)) else (some false)) else (some false))))))
set_option maxHeartbeats 8000000 in
set_option maxRecDepth 100000 in
theorem proofmarklaw02_SynPlaces.calls1 (k : Nat) (a0 : ByteArray) (r : Bool) (w : World) (hG : Tab w) (h : proofmarklaw02_SynPlaces.f k a0 = some r) (hr : r = true) :
    Calls Tryd.prog 3 #[.string a0] w fun e w' => e = .returned (.bool r) ∧ Below w.heap.size w w' := by
  have HRT := Aside0.mk hr
  clear hr
  have HG := Aside0.mk hG
  clear hG
  have hu26 := Tryd.underlying26
  have hu35 := Tryd.underlying35
  have HB := Aside0.mk (Below.refl w.heap.size w)
  have H : ((proofmarklaw02_head.f).bind fun t101 => ((proofmarklaw02_few.f a0).bind fun t102 => ((syn_Parse.f t102).bind fun bt103 => ((lex_Lex.f t102).bind fun bt110 => (if bt110.2.1 = 0 then (if (bt103.2.length : Int) > 20 then (some false) else (proofmarklaw02_SynPlaces.l0 k t101 t102 bt103.2 bt110.1 0)) else (if t101 = true then (if (bt103.2.length : Int) = 1 then (if 0 < (bt103.2.length : Int) then (some (((rd_T35 bt103.2 0).f0) == bt110.2.1 && (((rd_T35 bt103.2 0).f1) == bt110.2.2 && (((rd_T35 bt103.2 0).f2) == 0 && (((rd_T35 bt103.2 0).f3) == 0))))) else (none)) else (some false)) else (some false))))))) = some r := h
  clear h
  replace H := Option.bind_eq_some_iff.mp H
  obtain ⟨t101, A20, H⟩ := H
  replace H : ((proofmarklaw02_few.f a0).bind fun t102 => ((syn_Parse.f t102).bind fun bt103 => ((lex_Lex.f t102).bind fun bt110 => (if bt110.2.1 = 0 then (if (bt103.2.length : Int) > 20 then (some false) else (proofmarklaw02_SynPlaces.l0 k t101 t102 bt103.2 bt110.1 0)) else (if t101 = true then (if (bt103.2.length : Int) = 1 then (if 0 < (bt103.2.length : Int) then (some (((rd_T35 bt103.2 0).f0) == bt110.2.1 && (((rd_T35 bt103.2 0).f1) == bt110.2.2 && (((rd_T35 bt103.2 0).f2) == 0 && (((rd_T35 bt103.2 0).f3) == 0))))) else (none)) else (some false)) else (some false)))))) = some r := H
  have A2 := Aside0.mk A20
  clear A20
  replace H := Option.bind_eq_some_iff.mp H
  obtain ⟨t102, A30, H⟩ := H
  replace H : ((syn_Parse.f t102).bind fun bt103 => ((lex_Lex.f t102).bind fun bt110 => (if bt110.2.1 = 0 then (if (bt103.2.length : Int) > 20 then (some false) else (proofmarklaw02_SynPlaces.l0 k t101 t102 bt103.2 bt110.1 0)) else (if t101 = true then (if (bt103.2.length : Int) = 1 then (if 0 < (bt103.2.length : Int) then (some (((rd_T35 bt103.2 0).f0) == bt110.2.1 && (((rd_T35 bt103.2 0).f1) == bt110.2.2 && (((rd_T35 bt103.2 0).f2) == 0 && (((rd_T35 bt103.2 0).f3) == 0))))) else (none)) else (some false)) else (some false))))) = some r := H
  have A3 := Aside0.mk A30
  clear A30
  replace H := Option.bind_eq_some_iff.mp H
  obtain ⟨⟨t103, t106⟩, A40, H⟩ := H
  replace H : ((lex_Lex.f t102).bind fun bt110 => (if bt110.2.1 = 0 then (if (t106.length : Int) > 20 then (some false) else (proofmarklaw02_SynPlaces.l0 k t101 t102 t106 bt110.1 0)) else (if t101 = true then (if (t106.length : Int) = 1 then (if 0 < (t106.length : Int) then (some (((rd_T35 t106 0).f0) == bt110.2.1 && (((rd_T35 t106 0).f1) == bt110.2.2 && (((rd_T35 t106 0).f2) == 0 && (((rd_T35 t106 0).f3) == 0))))) else (none)) else (some false)) else (some false)))) = some r := H
  have A4 := Aside0.mk A40
  clear A40
  replace H := Option.bind_eq_some_iff.mp H
  obtain ⟨⟨t110, t111, t112⟩, A50, H⟩ := H
  replace H : (if t111 = 0 then (if (t106.length : Int) > 20 then (some false) else (proofmarklaw02_SynPlaces.l0 k t101 t102 t106 t110 0)) else (if t101 = true then (if (t106.length : Int) = 1 then (if 0 < (t106.length : Int) then (some (((rd_T35 t106 0).f0) == t111 && (((rd_T35 t106 0).f1) == t112 && (((rd_T35 t106 0).f2) == 0 && (((rd_T35 t106 0).f3) == 0))))) else (none)) else (some false)) else (some false))) = some r := H
  have A5 := Aside0.mk A50
  clear A50
  by_cases c6 : t111 = 0
  · rw [if_pos c6] at H
    have c6b0 : (t111 == 0) = true := beq_iff_eq.mpr c6
    have c6b1 : (t111 != 0) = false := bne_eq_false_iff_eq.mpr c6
    clear c6
    by_cases c7 : (t106.length : Int) > 20
    · rw [if_pos c7] at H; exact absurd (Option.some.inj H) (by rw [HRT.out]; decide)
    · rw [if_neg c7] at H
      have c7b0 : decide (20 < (t106.length : Int)) = false := decide_eq_false c7
      have c7b1 : decide (20 < t106.length) = false := decide_eq_false (by omega)
      clear c7
      have H' := Aside0.mk H
      clear H
      go_enter Tryd.func3, Tryd.ntmps3
      go_wp2_with (first | (go_at_call 9; (with_reducible refine (proofmarklaw02_head.calls t101 _ (by first | exact HG.out | (refine tab_below HG.out ?_; repeat (first | (with_reducible first | exact HB.out | apply below_alloc | apply pw_below_drewN | apply below_drew1 | refine below_set ?_ GE109.out | refine below_set ?_ GE117.out) | exact HB.out)) | (refine tab_drawn HG.out ?_; repeat (first | exact Drawn0.refl _ | apply drawn_drewN | apply drawn_drew))) A2.out).mono ?_); rintro e w16 ⟨rfl, hb⟩; have n0_ := Aside0.mk (below_step (by repeat (first | (with_reducible first | exact HB.out | apply below_alloc | apply pw_below_drewN | apply below_drew1) | exact HB.out)) hb); clear HB; have HB := n0_; clear n0_; (try clear hb); (try clear hb2); (try clear hk); (try clear hi)) | (go_at_call 10; (with_reducible refine (proofmarklaw02_few.calls a0 t102 _ A3.out).mono ?_); rintro e w17 ⟨rfl, hb⟩; have n0_ := Aside0.mk (below_step (by repeat (first | (with_reducible first | exact HB.out | apply below_alloc | apply pw_below_drewN | apply below_drew1) | exact HB.out)) hb); clear HB; have HB := n0_; clear n0_; (try clear hb); (try clear hb2); (try clear hk); (try clear hi)) | (go_at_call 11; (with_reducible refine (syn_Parse.calls t102 t103 t106 _ (by first | exact HG.out | (refine tab_below HG.out ?_; repeat (first | (with_reducible first | exact HB.out | apply below_alloc | apply pw_below_drewN | apply below_drew1 | refine below_set ?_ GE109.out | refine below_set ?_ GE117.out) | exact HB.out)) | (refine tab_drawn HG.out ?_; repeat (first | exact Drawn0.refl _ | apply drawn_drewN | apply drawn_drew))) A4.out).mono ?_); rintro e w18 ⟨v104, v107, rfl, ho0, ho1, hb⟩; have n0_ := Aside0.mk (Kd.R_lower ho0 (below_size (by repeat (first | (with_reducible first | exact HB.out | apply below_alloc | apply pw_below_drewN | apply below_drew1) | exact HB.out)))); have n1_ := Aside0.mk (Kd.R_lower ho1 (below_size (by repeat (first | (with_reducible first | exact HB.out | apply below_alloc | apply pw_below_drewN | apply below_drew1) | exact HB.out)))); have n2_ := Aside0.mk (below_step (by repeat (first | (with_reducible first | exact HB.out | apply below_alloc | apply pw_below_drewN | apply below_drew1) | exact HB.out)) hb); clear HB; have HO105 := n0_; have HO108 := n1_; have HB := n2_; clear n0_ n1_ n2_; (try clear hb); (try clear hb2); (try clear hk); (try clear hi); (try clear ho0); (try clear ho1)) | ((with_reducible refine gate_dst (N := 5) rfl ?_); (try (refine gate_guard (by rfl) ?_; dsimp only)); refine box_event ?hg (N := 5) ?hd (cs := #[.slice none 0 0]) (t := 26) ?hr ?_; (case hd => rfl); (case hg => rfl); (case hr => first | (go_simp; done) | (go_simp; rfl)); intro gb109 hg w19 hbox hb; have n0_ := Aside0.mk (Kd.R_below (by (with_reducible repeat (first | apply Kd.R_alloc | apply Kd.R_drewN | apply Kd.R_drew)); exact HO105.out) hb); have n1_ := Aside0.mk (Kd.R_below (by (with_reducible repeat (first | apply Kd.R_alloc | apply Kd.R_drewN | apply Kd.R_drew)); exact HO108.out) hb); have n2_ := Aside0.mk (below_step (by repeat (first | (with_reducible first | exact HB.out | apply below_alloc | apply pw_below_drewN | apply below_drew1) | exact HB.out)) hb); have n3_ := Aside0.mk (hbox); have n4_ := Aside0.mk ((by rw [hg]; exact (below_size (by repeat (first | (with_reducible first | exact HB.out | apply below_alloc | apply pw_below_drewN | apply below_drew1) | exact HB.out))) : w.heap.size ≤ gb109)); have n5_ := Aside0.mk ((by rw [hg]; exact (below_size (by repeat (first | (with_reducible first | exact HB.out | apply below_alloc | apply pw_below_drewN | apply below_drew1) | exact HB.out))) : w.heap.size ≤ gb109)); clear HO105; clear HO108; clear HB; have HO105 := n0_; have HO108 := n1_; have HB := n2_; have BK109 := n3_; have GW109 := n4_; have GE109 := n5_; clear n0_ n1_ n2_ n3_ n4_ n5_; clear hb hbox hg; obtain ⟨Ao20, co20, eo20⟩ := Kd.R_slice HO105.out; subst eo20; have hcz21_0 : w19.cell? ⟨gb109, 0, none⟩ = some (.slice none 0 0) := (blk_cell BK109.out 0).trans rfl; have hfz21_0 := blk_frozen BK109.out 0) | (go_at_call 12; (with_reducible refine (lex_Lex.calls t102 t110 t111 t112 _ (by first | exact HG.out | (refine tab_below HG.out ?_; repeat (first | (with_reducible first | exact HB.out | apply below_alloc | apply pw_below_drewN | apply below_drew1 | refine below_set ?_ GE109.out | refine below_set ?_ GE117.out) | exact HB.out)) | (refine tab_drawn HG.out ?_; repeat (first | exact Drawn0.refl _ | apply drawn_drewN | apply drawn_drew))) A5.out).mono ?_); rintro e w22 ⟨v113, rfl, ho0, hb⟩; have n0_ := Aside0.mk (Kd.R_below (by (with_reducible repeat (first | apply Kd.R_alloc | apply Kd.R_drewN | apply Kd.R_drew)); exact (Kd.R_mono (Kd.R_far (p := ⟨gb109, 0, none⟩) (Kd.R_types HO105.out BK109.out (by decide)) (fun _ hk => hk.2) (.slice Ao20 t103.length co20)) (fun _ h_ => h_.1))) hb); have n1_ := Aside0.mk (Kd.R_below (by (with_reducible repeat (first | apply Kd.R_alloc | apply Kd.R_drewN | apply Kd.R_drew)); exact (Kd.R_mono (Kd.R_far (p := ⟨gb109, 0, none⟩) (Kd.R_types HO108.out BK109.out (by decide)) (fun _ hk => hk.2) (.slice Ao20 t103.length co20)) (fun _ h_ => h_.1))) hb); have n2_ := Aside0.mk (Kd.R_lower ho0 (below_size (by repeat (first | (with_reducible first | exact HB.out | apply below_alloc | apply pw_below_drewN | apply below_drew1 | refine below_set ?_ GE109.out) | exact HB.out)))); have n3_ := Aside0.mk (blk_below (g := gb109) (o := .cells #[.slice Ao20 t103.length co20] 26 (0, 0)) (by (with_reducible repeat (first | refine blk_drewN ?_ _ | refine blk_drew ?_ | refine blk_alloc ?_ _)); refine blk_put (cs := #[.slice none 0 0]) ?_ 0 _ rfl; (with_reducible repeat (first | refine blk_drewN ?_ _ | refine blk_drew ?_ | refine blk_alloc ?_ _)); exact BK109.out) hb); have n4_ := Aside0.mk (below_step (by repeat (first | (with_reducible first | exact HB.out | apply below_alloc | apply pw_below_drewN | apply below_drew1 | refine below_set ?_ GE109.out) | exact HB.out)) hb); clear HO105; clear HO108; clear BK109; clear HB; have HO105 := n0_; have HO108 := n1_; have HO114 := n2_; have BK109 := n3_; have HB := n4_; clear n0_ n1_ n2_ n3_ n4_; (try clear hb); (try clear hb2); (try clear hk); (try clear hi); (try clear ho0); obtain ⟨Ao23, co23, eo23⟩ := Kd.R_slice HO108.out; subst eo23))
      repeat (go_quiet (first | (go_at_call 9; (with_reducible refine (proofmarklaw02_head.calls t101 _ (by first | exact HG.out | (refine tab_below HG.out ?_; repeat (first | (with_reducible first | exact HB.out | apply below_alloc | apply pw_below_drewN | apply below_drew1 | refine below_set ?_ GE109.out | refine below_set ?_ GE117.out) | exact HB.out)) | (refine tab_drawn HG.out ?_; repeat (first | exact Drawn0.refl _ | apply drawn_drewN | apply drawn_drew))) A2.out).mono ?_); rintro e w16 ⟨rfl, hb⟩; have n0_ := Aside0.mk (below_step (by repeat (first | (with_reducible first | exact HB.out | apply below_alloc | apply pw_below_drewN | apply below_drew1) | exact HB.out)) hb); clear HB; have HB := n0_; clear n0_; (try clear hb); (try clear hb2); (try clear hk); (try clear hi)) | (go_at_call 10; (with_reducible refine (proofmarklaw02_few.calls a0 t102 _ A3.out).mono ?_); rintro e w17 ⟨rfl, hb⟩; have n0_ := Aside0.mk (below_step (by repeat (first | (with_reducible first | exact HB.out | apply below_alloc | apply pw_below_drewN | apply below_drew1) | exact HB.out)) hb); clear HB; have HB := n0_; clear n0_; (try clear hb); (try clear hb2); (try clear hk); (try clear hi)) | (go_at_call 11; (with_reducible refine (syn_Parse.calls t102 t103 t106 _ (by first | exact HG.out | (refine tab_below HG.out ?_; repeat (first | (with_reducible first | exact HB.out | apply below_alloc | apply pw_below_drewN | apply below_drew1 | refine below_set ?_ GE109.out | refine below_set ?_ GE117.out) | exact HB.out)) | (refine tab_drawn HG.out ?_; repeat (first | exact Drawn0.refl _ | apply drawn_drewN | apply drawn_drew))) A4.out).mono ?_); rintro e w18 ⟨v104, v107, rfl, ho0, ho1, hb⟩; have n0_ := Aside0.mk (Kd.R_lower ho0 (below_size (by repeat (first | (with_reducible first | exact HB.out | apply below_alloc | apply pw_below_drewN | apply below_drew1) | exact HB.out)))); have n1_ := Aside0.mk (Kd.R_lower ho1 (below_size (by repeat (first | (with_reducible first | exact HB.out | apply below_alloc | apply pw_below_drewN | apply below_drew1) | exact HB.out)))); have n2_ := Aside0.mk (below_step (by repeat (first | (with_reducible first | exact HB.out | apply below_alloc | apply pw_below_drewN | apply below_drew1) | exact HB.out)) hb); clear HB; have HO105 := n0_; have HO108 := n1_; have HB := n2_; clear n0_ n1_ n2_; (try clear hb); (try clear hb2); (try clear hk); (try clear hi); (try clear ho0); (try clear ho1)) | ((with_reducible refine gate_dst (N := 5) rfl ?_); (try (refine gate_guard (by rfl) ?_; dsimp only)); refine box_event ?hg (N := 5) ?hd (cs := #[.slice none 0 0]) (t := 26) ?hr ?_; (case hd => rfl); (case hg => rfl); (case hr => first | (go_simp; done) | (go_simp; rfl)); intro gb109 hg w19 hbox hb; have n0_ := Aside0.mk (Kd.R_below (by (with_reducible repeat (first | apply Kd.R_alloc | apply Kd.R_drewN | apply Kd.R_drew)); exact HO105.out) hb); have n1_ := Aside0.mk (Kd.R_below (by (with_reducible repeat (first | apply Kd.R_alloc | apply Kd.R_drewN | apply Kd.R_drew)); exact HO108.out) hb); have n2_ := Aside0.mk (below_step (by repeat (first | (with_reducible first | exact HB.out | apply below_alloc | apply pw_below_drewN | apply below_drew1) | exact HB.out)) hb); have n3_ := Aside0.mk (hbox); have n4_ := Aside0.mk ((by rw [hg]; exact (below_size (by repeat (first | (with_reducible first | exact HB.out | apply below_alloc | apply pw_below_drewN | apply below_drew1) | exact HB.out))) : w.heap.size ≤ gb109)); have n5_ := Aside0.mk ((by rw [hg]; exact (below_size (by repeat (first | (with_reducible first | exact HB.out | apply below_alloc | apply pw_below_drewN | apply below_drew1) | exact HB.out))) : w.heap.size ≤ gb109)); clear HO105; clear HO108; clear HB; have HO105 := n0_; have HO108 := n1_; have HB := n2_; have BK109 := n3_; have GW109 := n4_; have GE109 := n5_; clear n0_ n1_ n2_ n3_ n4_ n5_; clear hb hbox hg; obtain ⟨Ao20, co20, eo20⟩ := Kd.R_slice HO105.out; subst eo20; have hcz21_0 : w19.cell? ⟨gb109, 0, none⟩ = some (.slice none 0 0) := (blk_cell BK109.out 0).trans rfl; have hfz21_0 := blk_frozen BK109.out 0) | (go_at_call 12; (with_reducible refine (lex_Lex.calls t102 t110 t111 t112 _ (by first | exact HG.out | (refine tab_below HG.out ?_; repeat (first | (with_reducible first | exact HB.out | apply below_alloc | apply pw_below_drewN | apply below_drew1 | refine below_set ?_ GE109.out | refine below_set ?_ GE117.out) | exact HB.out)) | (refine tab_drawn HG.out ?_; repeat (first | exact Drawn0.refl _ | apply drawn_drewN | apply drawn_drew))) A5.out).mono ?_); rintro e w22 ⟨v113, rfl, ho0, hb⟩; have n0_ := Aside0.mk (Kd.R_below (by (with_reducible repeat (first | apply Kd.R_alloc | apply Kd.R_drewN | apply Kd.R_drew)); exact (Kd.R_mono (Kd.R_far (p := ⟨gb109, 0, none⟩) (Kd.R_types HO105.out BK109.out (by decide)) (fun _ hk => hk.2) (.slice Ao20 t103.length co20)) (fun _ h_ => h_.1))) hb); have n1_ := Aside0.mk (Kd.R_below (by (with_reducible repeat (first | apply Kd.R_alloc | apply Kd.R_drewN | apply Kd.R_drew)); exact (Kd.R_mono (Kd.R_far (p := ⟨gb109, 0, none⟩) (Kd.R_types HO108.out BK109.out (by decide)) (fun _ hk => hk.2) (.slice Ao20 t103.length co20)) (fun _ h_ => h_.1))) hb); have n2_ := Aside0.mk (Kd.R_lower ho0 (below_size (by repeat (first | (with_reducible first | exact HB.out | apply below_alloc | apply pw_below_drewN | apply below_drew1 | refine below_set ?_ GE109.out) | exact HB.out)))); have n3_ := Aside0.mk (blk_below (g := gb109) (o := .cells #[.slice Ao20 t103.length co20] 26 (0, 0)) (by (with_reducible repeat (first | refine blk_drewN ?_ _ | refine blk_drew ?_ | refine blk_alloc ?_ _)); refine blk_put (cs := #[.slice none 0 0]) ?_ 0 _ rfl; (with_reducible repeat (first | refine blk_drewN ?_ _ | refine blk_drew ?_ | refine blk_alloc ?_ _)); exact BK109.out) hb); have n4_ := Aside0.mk (below_step (by repeat (first | (with_reducible first | exact HB.out | apply below_alloc | apply pw_below_drewN | apply below_drew1 | refine below_set ?_ GE109.out) | exact HB.out)) hb); clear HO105; clear HO108; clear BK109; clear HB; have HO105 := n0_; have HO108 := n1_; have HO114 := n2_; have BK109 := n3_; have HB := n4_; clear n0_ n1_ n2_ n3_ n4_; (try clear hb); (try clear hb2); (try clear hk); (try clear hi); (try clear ho0); obtain ⟨Ao23, co23, eo23⟩ := Kd.R_slice HO108.out; subst eo23)); try go_wp2_with (first | (go_at_call 9; (with_reducible refine (proofmarklaw02_head.calls t101 _ (by first | exact HG.out | (refine tab_below HG.out ?_; repeat (first | (with_reducible first | exact HB.out | apply below_alloc | apply pw_below_drewN | apply below_drew1 | refine below_set ?_ GE109.out | refine below_set ?_ GE117.out) | exact HB.out)) | (refine tab_drawn HG.out ?_; repeat (first | exact Drawn0.refl _ | apply drawn_drewN | apply drawn_drew))) A2.out).mono ?_); rintro e w16 ⟨rfl, hb⟩; have n0_ := Aside0.mk (below_step (by repeat (first | (with_reducible first | exact HB.out | apply below_alloc | apply pw_below_drewN | apply below_drew1) | exact HB.out)) hb); clear HB; have HB := n0_; clear n0_; (try clear hb); (try clear hb2); (try clear hk); (try clear hi)) | (go_at_call 10; (with_reducible refine (proofmarklaw02_few.calls a0 t102 _ A3.out).mono ?_); rintro e w17 ⟨rfl, hb⟩; have n0_ := Aside0.mk (below_step (by repeat (first | (with_reducible first | exact HB.out | apply below_alloc | apply pw_below_drewN | apply below_drew1) | exact HB.out)) hb); clear HB; have HB := n0_; clear n0_; (try clear hb); (try clear hb2); (try clear hk); (try clear hi)) | (go_at_call 11; (with_reducible refine (syn_Parse.calls t102 t103 t106 _ (by first | exact HG.out | (refine tab_below HG.out ?_; repeat (first | (with_reducible first | exact HB.out | apply below_alloc | apply pw_below_drewN | apply below_drew1 | refine below_set ?_ GE109.out | refine below_set ?_ GE117.out) | exact HB.out)) | (refine tab_drawn HG.out ?_; repeat (first | exact Drawn0.refl _ | apply drawn_drewN | apply drawn_drew))) A4.out).mono ?_); rintro e w18 ⟨v104, v107, rfl, ho0, ho1, hb⟩; have n0_ := Aside0.mk (Kd.R_lower ho0 (below_size (by repeat (first | (with_reducible first | exact HB.out | apply below_alloc | apply pw_below_drewN | apply below_drew1) | exact HB.out)))); have n1_ := Aside0.mk (Kd.R_lower ho1 (below_size (by repeat (first | (with_reducible first | exact HB.out | apply below_alloc | apply pw_below_drewN | apply below_drew1) | exact HB.out)))); have n2_ := Aside0.mk (below_step (by repeat (first | (with_reducible first | exact HB.out | apply below_alloc | apply pw_below_drewN | apply below_drew1) | exact HB.out)) hb); clear HB; have HO105 := n0_; have HO108 := n1_; have HB := n2_; clear n0_ n1_ n2_; (try clear hb); (try clear hb2); (try clear hk); (try clear hi); (try clear ho0); (try clear ho1)) | ((with_reducible refine gate_dst (N := 5) rfl ?_); (try (refine gate_guard (by rfl) ?_; dsimp only)); refine box_event ?hg (N := 5) ?hd (cs := #[.slice none 0 0]) (t := 26) ?hr ?_; (case hd => rfl); (case hg => rfl); (case hr => first | (go_simp; done) | (go_simp; rfl)); intro gb109 hg w19 hbox hb; have n0_ := Aside0.mk (Kd.R_below (by (with_reducible repeat (first | apply Kd.R_alloc | apply Kd.R_drewN | apply Kd.R_drew)); exact HO105.out) hb); have n1_ := Aside0.mk (Kd.R_below (by (with_reducible repeat (first | apply Kd.R_alloc | apply Kd.R_drewN | apply Kd.R_drew)); exact HO108.out) hb); have n2_ := Aside0.mk (below_step (by repeat (first | (with_reducible first | exact HB.out | apply below_alloc | apply pw_below_drewN | apply below_drew1) | exact HB.out)) hb); have n3_ := Aside0.mk (hbox); have n4_ := Aside0.mk ((by rw [hg]; exact (below_size (by repeat (first | (with_reducible first | exact HB.out | apply below_alloc | apply pw_below_drewN | apply below_drew1) | exact HB.out))) : w.heap.size ≤ gb109)); have n5_ := Aside0.mk ((by rw [hg]; exact (below_size (by repeat (first | (with_reducible first | exact HB.out | apply below_alloc | apply pw_below_drewN | apply below_drew1) | exact HB.out))) : w.heap.size ≤ gb109)); clear HO105; clear HO108; clear HB; have HO105 := n0_; have HO108 := n1_; have HB := n2_; have BK109 := n3_; have GW109 := n4_; have GE109 := n5_; clear n0_ n1_ n2_ n3_ n4_ n5_; clear hb hbox hg; obtain ⟨Ao20, co20, eo20⟩ := Kd.R_slice HO105.out; subst eo20; have hcz21_0 : w19.cell? ⟨gb109, 0, none⟩ = some (.slice none 0 0) := (blk_cell BK109.out 0).trans rfl; have hfz21_0 := blk_frozen BK109.out 0) | (go_at_call 12; (with_reducible refine (lex_Lex.calls t102 t110 t111 t112 _ (by first | exact HG.out | (refine tab_below HG.out ?_; repeat (first | (with_reducible first | exact HB.out | apply below_alloc | apply pw_below_drewN | apply below_drew1 | refine below_set ?_ GE109.out | refine below_set ?_ GE117.out) | exact HB.out)) | (refine tab_drawn HG.out ?_; repeat (first | exact Drawn0.refl _ | apply drawn_drewN | apply drawn_drew))) A5.out).mono ?_); rintro e w22 ⟨v113, rfl, ho0, hb⟩; have n0_ := Aside0.mk (Kd.R_below (by (with_reducible repeat (first | apply Kd.R_alloc | apply Kd.R_drewN | apply Kd.R_drew)); exact (Kd.R_mono (Kd.R_far (p := ⟨gb109, 0, none⟩) (Kd.R_types HO105.out BK109.out (by decide)) (fun _ hk => hk.2) (.slice Ao20 t103.length co20)) (fun _ h_ => h_.1))) hb); have n1_ := Aside0.mk (Kd.R_below (by (with_reducible repeat (first | apply Kd.R_alloc | apply Kd.R_drewN | apply Kd.R_drew)); exact (Kd.R_mono (Kd.R_far (p := ⟨gb109, 0, none⟩) (Kd.R_types HO108.out BK109.out (by decide)) (fun _ hk => hk.2) (.slice Ao20 t103.length co20)) (fun _ h_ => h_.1))) hb); have n2_ := Aside0.mk (Kd.R_lower ho0 (below_size (by repeat (first | (with_reducible first | exact HB.out | apply below_alloc | apply pw_below_drewN | apply below_drew1 | refine below_set ?_ GE109.out) | exact HB.out)))); have n3_ := Aside0.mk (blk_below (g := gb109) (o := .cells #[.slice Ao20 t103.length co20] 26 (0, 0)) (by (with_reducible repeat (first | refine blk_drewN ?_ _ | refine blk_drew ?_ | refine blk_alloc ?_ _)); refine blk_put (cs := #[.slice none 0 0]) ?_ 0 _ rfl; (with_reducible repeat (first | refine blk_drewN ?_ _ | refine blk_drew ?_ | refine blk_alloc ?_ _)); exact BK109.out) hb); have n4_ := Aside0.mk (below_step (by repeat (first | (with_reducible first | exact HB.out | apply below_alloc | apply pw_below_drewN | apply below_drew1 | refine below_set ?_ GE109.out) | exact HB.out)) hb); clear HO105; clear HO108; clear BK109; clear HB; have HO105 := n0_; have HO108 := n1_; have HO114 := n2_; have BK109 := n3_; have HB := n4_; clear n0_ n1_ n2_ n3_ n4_; (try clear hb); (try clear hb2); (try clear hk); (try clear hi); (try clear ho0); obtain ⟨Ao23, co23, eo23⟩ := Kd.R_slice HO108.out; subst eo23)))
      try simp only [Act.put, List.setIfInBounds_toArray, List.set_cons_succ, List.set_cons_zero]
      go_loopg [10] k (fun kq v10 w' => ∃ (x10_1 : Int), v10 = .int .i64 x10_1 ∧ Aside0 (proofmarklaw02_SynPlaces.l0 kq t101 t102 t106 t110 x10_1 = some r) ∧ Aside0 (kq ≤ k) ∧ Aside0 (Kd.R k35 35 w' w.heap.size (fun _ => True) (.slice Ao23 t106.length co23) t106) ∧ Aside0 (Kd.R k37 37 w' w.heap.size (fun _ => True) v113 t110) ∧ Aside0 (Kd.R k47 47 w' w.heap.size (fun _ => True) (.slice Ao20 t103.length co20) t103) ∧ Aside0 (w'.heap[gb109]? = some (.cells #[(.slice Ao20 t103.length co20)] 26 (0, 0))) ∧ Aside0 (Below w.heap.size w w'))
      case atStart => exact ⟨(0), (by first | rfl | (simp; done) | (simp [*]; done)), H', ⟨Nat.le_refl _⟩, ⟨by (with_reducible repeat (first | apply Kd.R_alloc | apply Kd.R_drewN | apply Kd.R_drew)); exact HO108.out⟩, ⟨by (with_reducible repeat (first | apply Kd.R_alloc | apply Kd.R_drewN | apply Kd.R_drew)); exact HO114.out⟩, ⟨by (with_reducible repeat (first | apply Kd.R_alloc | apply Kd.R_drewN | apply Kd.R_drew)); exact HO105.out⟩, ⟨by (with_reducible repeat (first | refine blk_drewN ?_ _ | refine blk_drew ?_ | refine blk_alloc ?_ _)); exact BK109.out⟩, ⟨by repeat (first | (with_reducible first | exact HB.out | apply below_alloc | apply pw_below_drewN | apply below_drew1 | refine below_set ?_ GE109.out) | exact HB.out)⟩⟩
      case round =>
        clear H'
        try clear p2
        try clear c3
        try clear c6
        try clear c6b0
        try clear c6b1
        try clear c7
        try clear c7b0
        try clear c7b1
        try clear hcz13_0
        try clear hcz21_0
        try clear hfz13_0
        try clear hfz21_0
        obtain ⟨x10_1, rfl, HA, HK1, HO_6, HO_7, HO_110000, BK109, HB⟩ := hrel
        cases gk with
        | zero => exact absurd HA.out (by simp [proofmarklaw02_SynPlaces.l0])
        | succ k1 =>
          have H := HA.out
          clear HA
          simp only [proofmarklaw02_SynPlaces.l0] at H
          by_cases c24 : x10_1 < (t106.length : Int)
          · rw [if_pos c24] at H
            have c24b0 : decide (x10_1 < (t106.length : Int)) = true := decide_eq_true c24
            clear c24
            by_cases c25 : 0 ≤ x10_1
            · rw [if_pos c25] at H
              have c25b0 : decide (0 ≤ x10_1) = true := decide_eq_true c25
              clear c25
              have H' := Aside0.mk H
              clear H
              have p116 : 0 ≤ (x10_1 : Int) := of_decide_eq_true (by first | (with_reducible assumption) | assumption)
              have q116 : x10_1 < (t106.length : Int) := of_decide_eq_true (by first | (with_reducible assumption) | assumption)
              obtain ⟨ad116, e116, hx116_0, hx116_1, hx116_2, hx116_3⟩ := at_T35 (Kd.R_reads' HO_6.out).2.2 x10_1 p116 q116
              cases e116
              replace p116 := eq_true p116
              replace q116 := eq_true q116
              go_wp2_with (first | ((with_reducible refine gate_dst (N := 11) rfl ?_); (try (refine gate_guard (by rfl) ?_; dsimp only)); refine box_event ?hg (N := 11) ?hd (cs := #[.int .i64 0, .int .i64 0, .int .i64 0, .int .i64 0]) (t := 35) ?hr ?_; (case hd => rfl); (case hg => rfl); (case hr => first | (go_simp; done) | (go_simp; rfl)); intro gb117 hg w26 hbox hb; have n0_ := Aside0.mk (Kd.R_below (Kd.R_elderB (by (with_reducible repeat (first | apply Kd.R_alloc | apply Kd.R_drewN | apply Kd.R_drew)); exact HO_6.out) gb117 (Nat.le_of_eq hg.symm)) hb); have n1_ := Aside0.mk (Kd.R_below (by (with_reducible repeat (first | apply Kd.R_alloc | apply Kd.R_drewN | apply Kd.R_drew)); exact HO_7.out) hb); have n2_ := Aside0.mk (Kd.R_below (by (with_reducible repeat (first | apply Kd.R_alloc | apply Kd.R_drewN | apply Kd.R_drew)); exact HO_110000.out) hb); have n3_ := Aside0.mk (blk_below (g := gb109) (o := .cells #[.slice Ao20 t103.length co20] 26 (0, 0)) (by (with_reducible repeat (first | refine blk_drewN ?_ _ | refine blk_drew ?_ | refine blk_alloc ?_ _)); exact BK109.out) hb); have n4_ := Aside0.mk (below_step (by repeat (first | (with_reducible first | exact HB.out | apply below_alloc | apply pw_below_drewN | apply below_drew1 | refine below_set ?_ GE109.out) | exact HB.out)) hb); have n5_ := Aside0.mk (hbox); have n6_ := Aside0.mk ((by rw [hg]; exact (below_size (by repeat (first | (with_reducible first | exact HB.out | apply below_alloc | apply pw_below_drewN | apply below_drew1 | refine below_set ?_ GE109.out) | exact HB.out))) : w.heap.size ≤ gb117)); have n7_ := Aside0.mk ((by rw [hg]; exact (below_size (by repeat (first | (with_reducible first | exact HB.out | apply below_alloc | apply pw_below_drewN | apply below_drew1 | refine below_set ?_ GE109.out) | exact HB.out))) : w.heap.size ≤ gb117)); have n8_ := Aside0.mk ((by rw [hg]; exact Nat.ne_of_lt (blk_lt (g := gb109) (o := .cells #[.slice Ao20 t103.length co20] 26 (0, 0)) (by (with_reducible repeat (first | refine blk_drewN ?_ _ | refine blk_drew ?_ | refine blk_alloc ?_ _)); exact BK109.out)) : gb109 ≠ gb117)); have n9_ := Aside0.mk ((by rw [hg]; exact Nat.ne_of_gt (blk_lt (g := gb109) (o := .cells #[.slice Ao20 t103.length co20] 26 (0, 0)) (by (with_reducible repeat (first | refine blk_drewN ?_ _ | refine blk_drew ?_ | refine blk_alloc ?_ _)); exact BK109.out)) : gb117 ≠ gb109)); clear HO_6; clear HO_7; clear HO_110000; clear BK109; clear HB; have HO_6 := n0_; have HO_7 := n1_; have HO_110000 := n2_; have BK109 := n3_; have HB := n4_; have BK117 := n5_; have GW117 := n6_; have GE117 := n7_; have NB109_117 := n8_; have NB117_109 := n9_; clear n0_ n1_ n2_ n3_ n4_ n5_ n6_ n7_ n8_ n9_; clear hb hbox hg; have hnb27 := NB117_109.out; have hnc27 := NB109_117.out; have hcz28_0 : w26.cell? ⟨gb117, 0, none⟩ = some (.int .i64 0) := (blk_cell BK117.out 0).trans rfl; have hcz28_1 : w26.cell? ⟨gb117, 1, none⟩ = some (.int .i64 0) := (blk_cell BK117.out 1).trans rfl; have hcz28_2 : w26.cell? ⟨gb117, 2, none⟩ = some (.int .i64 0) := (blk_cell BK117.out 2).trans rfl; have hcz28_3 : w26.cell? ⟨gb117, 3, none⟩ = some (.int .i64 0) := (blk_cell BK117.out 3).trans rfl; have hfz28_0 := blk_frozen BK117.out 0; have hfz28_1 := blk_frozen BK117.out 1; have hfz28_2 := blk_frozen BK117.out 2; have hfz28_3 := blk_frozen BK117.out 3))
              repeat (go_quiet (first | ((with_reducible refine gate_dst (N := 11) rfl ?_); (try (refine gate_guard (by rfl) ?_; dsimp only)); refine box_event ?hg (N := 11) ?hd (cs := #[.int .i64 0, .int .i64 0, .int .i64 0, .int .i64 0]) (t := 35) ?hr ?_; (case hd => rfl); (case hg => rfl); (case hr => first | (go_simp; done) | (go_simp; rfl)); intro gb117 hg w26 hbox hb; have n0_ := Aside0.mk (Kd.R_below (Kd.R_elderB (by (with_reducible repeat (first | apply Kd.R_alloc | apply Kd.R_drewN | apply Kd.R_drew)); exact HO_6.out) gb117 (Nat.le_of_eq hg.symm)) hb); have n1_ := Aside0.mk (Kd.R_below (by (with_reducible repeat (first | apply Kd.R_alloc | apply Kd.R_drewN | apply Kd.R_drew)); exact HO_7.out) hb); have n2_ := Aside0.mk (Kd.R_below (by (with_reducible repeat (first | apply Kd.R_alloc | apply Kd.R_drewN | apply Kd.R_drew)); exact HO_110000.out) hb); have n3_ := Aside0.mk (blk_below (g := gb109) (o := .cells #[.slice Ao20 t103.length co20] 26 (0, 0)) (by (with_reducible repeat (first | refine blk_drewN ?_ _ | refine blk_drew ?_ | refine blk_alloc ?_ _)); exact BK109.out) hb); have n4_ := Aside0.mk (below_step (by repeat (first | (with_reducible first | exact HB.out | apply below_alloc | apply pw_below_drewN | apply below_drew1 | refine below_set ?_ GE109.out) | exact HB.out)) hb); have n5_ := Aside0.mk (hbox); have n6_ := Aside0.mk ((by rw [hg]; exact (below_size (by repeat (first | (with_reducible first | exact HB.out | apply below_alloc | apply pw_below_drewN | apply below_drew1 | refine below_set ?_ GE109.out) | exact HB.out))) : w.heap.size ≤ gb117)); have n7_ := Aside0.mk ((by rw [hg]; exact (below_size (by repeat (first | (with_reducible first | exact HB.out | apply below_alloc | apply pw_below_drewN | apply below_drew1 | refine below_set ?_ GE109.out) | exact HB.out))) : w.heap.size ≤ gb117)); have n8_ := Aside0.mk ((by rw [hg]; exact Nat.ne_of_lt (blk_lt (g := gb109) (o := .cells #[.slice Ao20 t103.length co20] 26 (0, 0)) (by (with_reducible repeat (first | refine blk_drewN ?_ _ | refine blk_drew ?_ | refine blk_alloc ?_ _)); exact BK109.out)) : gb109 ≠ gb117)); have n9_ := Aside0.mk ((by rw [hg]; exact Nat.ne_of_gt (blk_lt (g := gb109) (o := .cells #[.slice Ao20 t103.length co20] 26 (0, 0)) (by (with_reducible repeat (first | refine blk_drewN ?_ _ | refine blk_drew ?_ | refine blk_alloc ?_ _)); exact BK109.out)) : gb117 ≠ gb109)); clear HO_6; clear HO_7; clear HO_110000; clear BK109; clear HB; have HO_6 := n0_; have HO_7 := n1_; have HO_110000 := n2_; have BK109 := n3_; have HB := n4_; have BK117 := n5_; have GW117 := n6_; have GE117 := n7_; have NB109_117 := n8_; have NB117_109 := n9_; clear n0_ n1_ n2_ n3_ n4_ n5_ n6_ n7_ n8_ n9_; clear hb hbox hg; have hnb27 := NB117_109.out; have hnc27 := NB109_117.out; have hcz28_0 : w26.cell? ⟨gb117, 0, none⟩ = some (.int .i64 0) := (blk_cell BK117.out 0).trans rfl; have hcz28_1 : w26.cell? ⟨gb117, 1, none⟩ = some (.int .i64 0) := (blk_cell BK117.out 1).trans rfl; have hcz28_2 : w26.cell? ⟨gb117, 2, none⟩ = some (.int .i64 0) := (blk_cell BK117.out 2).trans rfl; have hcz28_3 : w26.cell? ⟨gb117, 3, none⟩ = some (.int .i64 0) := (blk_cell BK117.out 3).trans rfl; have hfz28_0 := blk_frozen BK117.out 0; have hfz28_1 := blk_frozen BK117.out 1; have hfz28_2 := blk_frozen BK117.out 2; have hfz28_3 := blk_frozen BK117.out 3)); try go_wp2_with (first | ((with_reducible refine gate_dst (N := 11) rfl ?_); (try (refine gate_guard (by rfl) ?_; dsimp only)); refine box_event ?hg (N := 11) ?hd (cs := #[.int .i64 0, .int .i64 0, .int .i64 0, .int .i64 0]) (t := 35) ?hr ?_; (case hd => rfl); (case hg => rfl); (case hr => first | (go_simp; done) | (go_simp; rfl)); intro gb117 hg w26 hbox hb; have n0_ := Aside0.mk (Kd.R_below (Kd.R_elderB (by (with_reducible repeat (first | apply Kd.R_alloc | apply Kd.R_drewN | apply Kd.R_drew)); exact HO_6.out) gb117 (Nat.le_of_eq hg.symm)) hb); have n1_ := Aside0.mk (Kd.R_below (by (with_reducible repeat (first | apply Kd.R_alloc | apply Kd.R_drewN | apply Kd.R_drew)); exact HO_7.out) hb); have n2_ := Aside0.mk (Kd.R_below (by (with_reducible repeat (first | apply Kd.R_alloc | apply Kd.R_drewN | apply Kd.R_drew)); exact HO_110000.out) hb); have n3_ := Aside0.mk (blk_below (g := gb109) (o := .cells #[.slice Ao20 t103.length co20] 26 (0, 0)) (by (with_reducible repeat (first | refine blk_drewN ?_ _ | refine blk_drew ?_ | refine blk_alloc ?_ _)); exact BK109.out) hb); have n4_ := Aside0.mk (below_step (by repeat (first | (with_reducible first | exact HB.out | apply below_alloc | apply pw_below_drewN | apply below_drew1 | refine below_set ?_ GE109.out) | exact HB.out)) hb); have n5_ := Aside0.mk (hbox); have n6_ := Aside0.mk ((by rw [hg]; exact (below_size (by repeat (first | (with_reducible first | exact HB.out | apply below_alloc | apply pw_below_drewN | apply below_drew1 | refine below_set ?_ GE109.out) | exact HB.out))) : w.heap.size ≤ gb117)); have n7_ := Aside0.mk ((by rw [hg]; exact (below_size (by repeat (first | (with_reducible first | exact HB.out | apply below_alloc | apply pw_below_drewN | apply below_drew1 | refine below_set ?_ GE109.out) | exact HB.out))) : w.heap.size ≤ gb117)); have n8_ := Aside0.mk ((by rw [hg]; exact Nat.ne_of_lt (blk_lt (g := gb109) (o := .cells #[.slice Ao20 t103.length co20] 26 (0, 0)) (by (with_reducible repeat (first | refine blk_drewN ?_ _ | refine blk_drew ?_ | refine blk_alloc ?_ _)); exact BK109.out)) : gb109 ≠ gb117)); have n9_ := Aside0.mk ((by rw [hg]; exact Nat.ne_of_gt (blk_lt (g := gb109) (o := .cells #[.slice Ao20 t103.length co20] 26 (0, 0)) (by (with_reducible repeat (first | refine blk_drewN ?_ _ | refine blk_drew ?_ | refine blk_alloc ?_ _)); exact BK109.out)) : gb117 ≠ gb109)); clear HO_6; clear HO_7; clear HO_110000; clear BK109; clear HB; have HO_6 := n0_; have HO_7 := n1_; have HO_110000 := n2_; have BK109 := n3_; have HB := n4_; have BK117 := n5_; have GW117 := n6_; have GE117 := n7_; have NB109_117 := n8_; have NB117_109 := n9_; clear n0_ n1_ n2_ n3_ n4_ n5_ n6_ n7_ n8_ n9_; clear hb hbox hg; have hnb27 := NB117_109.out; have hnc27 := NB109_117.out; have hcz28_0 : w26.cell? ⟨gb117, 0, none⟩ = some (.int .i64 0) := (blk_cell BK117.out 0).trans rfl; have hcz28_1 : w26.cell? ⟨gb117, 1, none⟩ = some (.int .i64 0) := (blk_cell BK117.out 1).trans rfl; have hcz28_2 : w26.cell? ⟨gb117, 2, none⟩ = some (.int .i64 0) := (blk_cell BK117.out 2).trans rfl; have hcz28_3 : w26.cell? ⟨gb117, 3, none⟩ = some (.int .i64 0) := (blk_cell BK117.out 3).trans rfl; have hfz28_0 := blk_frozen BK117.out 0; have hfz28_1 := blk_frozen BK117.out 1; have hfz28_2 := blk_frozen BK117.out 2; have hfz28_3 := blk_frozen BK117.out 3)))
              try simp only [Act.put, List.setIfInBounds_toArray, List.set_cons_succ, List.set_cons_zero]
              go_loopg [12, 13] k1 (fun kq v12 v13 w' => ∃ (x12_2 : Bool) (x13_2 : Int), v12 = .bool x12_2 ∧ v13 = .int .i64 x13_2 ∧ Aside0 (proofmarklaw02_SynPlaces.l1 kq t101 t102 t106 t110 x10_1 x12_2 x13_2 ((rd_T35 t106 x10_1).f0) ((rd_T35 t106 x10_1).f1) ((rd_T35 t106 x10_1).f2) ((rd_T35 t106 x10_1).f3) = some r) ∧ Aside0 (kq ≤ k1) ∧ Aside0 (Kd.R k35 35 w' w.heap.size (fun k_ => k_ ≠ gb117) (.slice (some ad116) t106.length co23) t106) ∧ Aside0 (Kd.R k37 37 w' w.heap.size (fun _ => True) v113 t110) ∧ Aside0 (Kd.R k47 47 w' w.heap.size (fun _ => True) (.slice Ao20 t103.length co20) t103) ∧ Aside0 (w'.heap[gb109]? = some (.cells #[(.slice Ao20 t103.length co20)] 26 (0, 0))) ∧ Aside0 (w'.heap[gb117]? = some (.cells #[.int .i64 ((rd_T35 t106 x10_1).f0), .int .i64 ((rd_T35 t106 x10_1).f1), .int .i64 ((rd_T35 t106 x10_1).f2), .int .i64 ((rd_T35 t106 x10_1).f3)] 35 (0, 0))) ∧ Aside0 (Below w.heap.size w w'))
              case atStart => exact ⟨(false), (0), (by first | rfl | (simp; done) | (simp [*]; done)), (by first | rfl | (simp; done) | (simp [*]; done)), H', ⟨Nat.le_refl _⟩, ⟨by (with_reducible repeat (first | apply Kd.R_alloc | apply Kd.R_drewN | apply Kd.R_drew)); exact Kd.R_mono (Kd.R_far (p := ⟨gb117, 3, none⟩) (Kd.R_far (p := ⟨gb117, 2, none⟩) (Kd.R_far (p := ⟨gb117, 1, none⟩) (Kd.R_far (p := ⟨gb117, 0, none⟩) (Kd.R_mono HO_6.out (fun k_ hk => (⟨hk, hk.2⟩ : _ ∧ k_ ≠ gb117))) (fun _ hk => hk.2) (.int .i64 ((rd_T35 t106 x10_1).f0))) (fun _ hk => hk.2) (.int .i64 ((rd_T35 t106 x10_1).f1))) (fun _ hk => hk.2) (.int .i64 ((rd_T35 t106 x10_1).f2))) (fun _ hk => hk.2) (.int .i64 ((rd_T35 t106 x10_1).f3))) (fun _ hk => hk.1.2)⟩, ⟨by (with_reducible repeat (first | apply Kd.R_alloc | apply Kd.R_drewN | apply Kd.R_drew)); exact Kd.R_mono (Kd.R_far (p := ⟨gb117, 3, none⟩) (Kd.R_far (p := ⟨gb117, 2, none⟩) (Kd.R_far (p := ⟨gb117, 1, none⟩) (Kd.R_far (p := ⟨gb117, 0, none⟩) (Kd.R_types HO_7.out BK117.out (by decide)) (fun _ hk => hk.2) (.int .i64 ((rd_T35 t106 x10_1).f0))) (fun _ hk => hk.2) (.int .i64 ((rd_T35 t106 x10_1).f1))) (fun _ hk => hk.2) (.int .i64 ((rd_T35 t106 x10_1).f2))) (fun _ hk => hk.2) (.int .i64 ((rd_T35 t106 x10_1).f3))) (fun _ hk => trivial)⟩, ⟨by (with_reducible repeat (first | apply Kd.R_alloc | apply Kd.R_drewN | apply Kd.R_drew)); exact Kd.R_mono (Kd.R_far (p := ⟨gb117, 3, none⟩) (Kd.R_far (p := ⟨gb117, 2, none⟩) (Kd.R_far (p := ⟨gb117, 1, none⟩) (Kd.R_far (p := ⟨gb117, 0, none⟩) (Kd.R_types HO_110000.out BK117.out (by decide)) (fun _ hk => hk.2) (.int .i64 ((rd_T35 t106 x10_1).f0))) (fun _ hk => hk.2) (.int .i64 ((rd_T35 t106 x10_1).f1))) (fun _ hk => hk.2) (.int .i64 ((rd_T35 t106 x10_1).f2))) (fun _ hk => hk.2) (.int .i64 ((rd_T35 t106 x10_1).f3))) (fun _ hk => trivial)⟩, ⟨by (with_reducible repeat (first | refine blk_drewN ?_ _ | refine blk_drew ?_ | refine blk_alloc ?_ _)); refine blk_far ?_ NB109_117.out _; (with_reducible repeat (first | refine blk_drewN ?_ _ | refine blk_drew ?_ | refine blk_alloc ?_ _)); refine blk_far ?_ NB109_117.out _; (with_reducible repeat (first | refine blk_drewN ?_ _ | refine blk_drew ?_ | refine blk_alloc ?_ _)); refine blk_far ?_ NB109_117.out _; (with_reducible repeat (first | refine blk_drewN ?_ _ | refine blk_drew ?_ | refine blk_alloc ?_ _)); refine blk_far ?_ NB109_117.out _; (with_reducible repeat (first | refine blk_drewN ?_ _ | refine blk_drew ?_ | refine blk_alloc ?_ _)); exact BK109.out⟩, ⟨by (with_reducible repeat (first | refine blk_drewN ?_ _ | refine blk_drew ?_ | refine blk_alloc ?_ _)); refine blk_put (cs := #[.int .i64 ((rd_T35 t106 x10_1).f0), .int .i64 ((rd_T35 t106 x10_1).f1), .int .i64 ((rd_T35 t106 x10_1).f2), .int .i64 0]) ?_ 3 _ rfl; (with_reducible repeat (first | refine blk_drewN ?_ _ | refine blk_drew ?_ | refine blk_alloc ?_ _)); refine blk_put (cs := #[.int .i64 ((rd_T35 t106 x10_1).f0), .int .i64 ((rd_T35 t106 x10_1).f1), .int .i64 0, .int .i64 0]) ?_ 2 _ rfl; (with_reducible repeat (first | refine blk_drewN ?_ _ | refine blk_drew ?_ | refine blk_alloc ?_ _)); refine blk_put (cs := #[.int .i64 ((rd_T35 t106 x10_1).f0), .int .i64 0, .int .i64 0, .int .i64 0]) ?_ 1 _ rfl; (with_reducible repeat (first | refine blk_drewN ?_ _ | refine blk_drew ?_ | refine blk_alloc ?_ _)); refine blk_put (cs := #[.int .i64 0, .int .i64 0, .int .i64 0, .int .i64 0]) ?_ 0 _ rfl; (with_reducible repeat (first | refine blk_drewN ?_ _ | refine blk_drew ?_ | refine blk_alloc ?_ _)); exact BK117.out⟩, ⟨by repeat (first | (with_reducible first | exact HB.out | apply below_alloc | apply pw_below_drewN | apply below_drew1 | refine below_set ?_ GE109.out | refine below_set ?_ GE117.out) | exact HB.out)⟩⟩
              case round =>
                clear H'
                try clear p1
                try clear q1
                try clear hx1
                try clear c2
                try clear p2
                try clear c3
                try clear c6
                try clear c6b0
                try clear c6b1
                try clear c7
                try clear c7b0
                try clear c7b1
                try clear p11
                try clear q11
                try clear hx11
                try clear c24
                try clear c24b0
                try clear c25
                try clear c25b0
                try clear c27
                try clear hcz13_0
                try clear hcz21_0
                try clear hcz28_0
                try clear hcz28_1
                try clear hcz28_2
                try clear hcz28_3
                try clear hfz13_0
                try clear hfz21_0
                try clear hfz28_0
                try clear hfz28_1
                try clear hfz28_2
                try clear hfz28_3
                try clear hx116_0
                try clear hx116_1
                try clear hx116_2
                try clear hx116_3
                try clear p116
                try clear p2
                try clear q116
                obtain ⟨x12_2, x13_2, rfl, rfl, HA, HK2, HO_6, HO_7, HO_110000, BK109, BK117, HB⟩ := hrel
                cases gk with
                | zero => exact absurd HA.out (by simp [proofmarklaw02_SynPlaces.l1])
                | succ k2 =>
                  have H := HA.out
                  clear HA
                  simp only [proofmarklaw02_SynPlaces.l1] at H
                  by_cases c29 : x13_2 < (t110.length : Int)
                  · rw [if_pos c29] at H
                    have c29b0 : decide (x13_2 < (t110.length : Int)) = true := decide_eq_true c29
                    clear c29
                    by_cases c30 : x12_2 = true
                    · subst c30
                      have H1 : (proofmarklaw02_SynPlaces.l1 k2 t101 t102 t106 t110 x10_1 true (wrap64 (x13_2 + 1)) ((rd_T35 t106 x10_1).f0) ((rd_T35 t106 x10_1).f1) ((rd_T35 t106 x10_1).f2) ((rd_T35 t106 x10_1).f3)) = some r := by rw [if_pos rfl] at H; exact H
                      clear H
                      have H := H1
                      clear H1
                      have H' := Aside0.mk H
                      clear H
                      obtain ⟨Ao31, co31, eo31⟩ := Kd.R_slice HO_7.out
                      subst eo31
                      go_wp2
                      repeat (go_quiet (fail); try go_wp2)
                      go_roundg k2
                      case measure => have := HK1.out; have := HK2.out; omega
                      case rel => exact ⟨(true), (wrap64 (x13_2 + 1)), (by first | rfl | (simp; done) | (simp [*]; done)), (by first | rfl | (simp; done) | (simp [*]; done)), H', ⟨by have := HK1.out; have := HK2.out; omega⟩, ⟨by (with_reducible repeat (first | apply Kd.R_alloc | apply Kd.R_drewN | apply Kd.R_drew)); exact HO_6.out⟩, ⟨by (with_reducible repeat (first | apply Kd.R_alloc | apply Kd.R_drewN | apply Kd.R_drew)); exact HO_7.out⟩, ⟨by (with_reducible repeat (first | apply Kd.R_alloc | apply Kd.R_drewN | apply Kd.R_drew)); exact HO_110000.out⟩, ⟨by (with_reducible repeat (first | refine blk_drewN ?_ _ | refine blk_drew ?_ | refine blk_alloc ?_ _)); exact BK109.out⟩, ⟨by (with_reducible repeat (first | refine blk_drewN ?_ _ | refine blk_drew ?_ | refine blk_alloc ?_ _)); exact BK117.out⟩, ⟨by repeat (first | (with_reducible first | exact HB.out | apply below_alloc | apply pw_below_drewN | apply below_drew1 | refine below_set ?_ GE109.out | refine below_set ?_ GE117.out) | exact HB.out)⟩⟩
                    · replace c30 := Bool.eq_false_iff.mpr c30
                      subst c30
                      have H1 : (if 0 ≤ x13_2 then (proofmarklaw02_SynPlaces.l1 k2 t101 t102 t106 t110 x10_1 (((rd_T37 t110 x13_2).f3) == ((rd_T35 t106 x10_1).f1)) (wrap64 (x13_2 + 1)) ((rd_T35 t106 x10_1).f0) ((rd_T35 t106 x10_1).f1) ((rd_T35 t106 x10_1).f2) ((rd_T35 t106 x10_1).f3)) else (none)) = some r := by rw [if_neg (show ¬ (false = true) by decide)] at H; exact H
                      clear H
                      have H := H1
                      clear H1
                      by_cases c32 : 0 ≤ x13_2
                      · rw [if_pos c32] at H
                        have c32b0 : decide (0 ≤ x13_2) = true := decide_eq_true c32
                        clear c32
                        have H' := Aside0.mk H
                        clear H
                        obtain ⟨Ao33, co33, eo33⟩ := Kd.R_slice HO_7.out
                        subst eo33
                        have p118 : 0 ≤ (x13_2 : Int) := of_decide_eq_true (by first | (with_reducible assumption) | assumption)
                        have q118 : x13_2 < (t110.length : Int) := of_decide_eq_true (by first | (with_reducible assumption) | assumption)
                        obtain ⟨ad118, e118, hx118_0, hx118_1, hx118_2, hx118_3⟩ := at_T37 (Kd.R_reads' HO_7.out).2.2 x13_2 p118 q118
                        cases e118
                        replace p118 := eq_true p118
                        replace q118 := eq_true q118
                        have hnb34 := NB117_109.out
                        have hnc34 := NB109_117.out
                        have hcz35_0 : wr.cell? ⟨gb117, 0, none⟩ = some (.int .i64 ((rd_T35 t106 x10_1).f0)) := (blk_cell BK117.out 0).trans rfl
                        have hcz35_1 : wr.cell? ⟨gb117, 1, none⟩ = some (.int .i64 ((rd_T35 t106 x10_1).f1)) := (blk_cell BK117.out 1).trans rfl
                        have hcz35_2 : wr.cell? ⟨gb117, 2, none⟩ = some (.int .i64 ((rd_T35 t106 x10_1).f2)) := (blk_cell BK117.out 2).trans rfl
                        have hcz35_3 : wr.cell? ⟨gb117, 3, none⟩ = some (.int .i64 ((rd_T35 t106 x10_1).f3)) := (blk_cell BK117.out 3).trans rfl
                        have hfz35_0 := blk_frozen BK117.out 0
                        have hfz35_1 := blk_frozen BK117.out 1
                        have hfz35_2 := blk_frozen BK117.out 2
                        have hfz35_3 := blk_frozen BK117.out 3
                        go_wp2
                        repeat (go_quiet (fail); try go_wp2)
                        go_roundg k2
                        case measure => have := HK1.out; have := HK2.out; omega
                        case rel => exact ⟨((((rd_T37 t110 x13_2).f3) == ((rd_T35 t106 x10_1).f1))), (wrap64 (x13_2 + 1)), (by first | rfl | (simp; done) | (simp [*]; done)), (by first | rfl | (simp; done) | (simp [*]; done)), H', ⟨by have := HK1.out; have := HK2.out; omega⟩, ⟨by (with_reducible repeat (first | apply Kd.R_alloc | apply Kd.R_drewN | apply Kd.R_drew)); exact HO_6.out⟩, ⟨by (with_reducible repeat (first | apply Kd.R_alloc | apply Kd.R_drewN | apply Kd.R_drew)); exact HO_7.out⟩, ⟨by (with_reducible repeat (first | apply Kd.R_alloc | apply Kd.R_drewN | apply Kd.R_drew)); exact HO_110000.out⟩, ⟨by (with_reducible repeat (first | refine blk_drewN ?_ _ | refine blk_drew ?_ | refine blk_alloc ?_ _)); exact BK109.out⟩, ⟨by (with_reducible repeat (first | refine blk_drewN ?_ _ | refine blk_drew ?_ | refine blk_alloc ?_ _)); exact BK117.out⟩, ⟨by repeat (first | (with_reducible first | exact HB.out | apply below_alloc | apply pw_below_drewN | apply below_drew1 | refine below_set ?_ GE109.out | refine below_set ?_ GE117.out) | exact HB.out)⟩⟩
                      · rw [if_neg c32] at H
                        exact absurd H (by simp)
                  · rw [if_neg c29] at H
                    have c29b0 : decide (x13_2 < (t110.length : Int)) = false := decide_eq_false c29
                    clear c29
                    by_cases c36 : ((rd_T35 t106 x10_1).f0) = 21
                    · rw [if_pos c36] at H
                      have c36b0 : (((rd_T35 t106 x10_1).f0) == 21) = true := beq_iff_eq.mpr c36
                      have c36b1 : (((rd_T35 t106 x10_1).f0) != 21) = false := bne_eq_false_iff_eq.mpr c36
                      clear c36
                      by_cases c37 : ((rd_T35 t106 x10_1).f1) = (t102.size : Int)
                      · rw [if_pos c37] at H
                        have c37b0 : (((rd_T35 t106 x10_1).f1) == (t102.size : Int)) = true := beq_iff_eq.mpr c37
                        have c37b1 : (((rd_T35 t106 x10_1).f1) != (t102.size : Int)) = false := bne_eq_false_iff_eq.mpr c37
                        clear c37
                        by_cases c38 : x10_1 > 0
                        · rw [if_pos c38] at H
                          have c38b0 : decide (0 < x10_1) = true := decide_eq_true c38
                          clear c38
                          obtain ⟨ji39, hji39⟩ : ∃ j_ : Int, (wrap64 (x10_1 - 1)) = j_ := ⟨_, rfl⟩
                          replace H : (if 0 ≤ (ji39) then (if (ji39) < (t106.length : Int) then (if ((rd_T35 t106 x10_1).f1) < ((rd_T35 t106 (ji39)).f1) then (some false) else (if ((rd_T35 t106 x10_1).f2) = 0 then (if ((rd_T35 t106 x10_1).f3) = 0 then (if (x10_1 = (wrap64 ((t106.length : Int) - 1))) then (proofmarklaw02_SynPlaces.l0 k2 t101 t102 t106 t110 (wrap64 (x10_1 + 1))) else (if x12_2 = true then (if ((rd_T35 t106 x10_1).f0) = 20 then (proofmarklaw02_SynPlaces.l0 k2 t101 t102 t106 t110 (wrap64 (x10_1 + 1))) else (if ((rd_T35 t106 x10_1).f0) = 2 then (proofmarklaw02_SynPlaces.l0 k2 t101 t102 t106 t110 (wrap64 (x10_1 + 1))) else (some false))) else (some false))) else (some false)) else (some false))) else (none)) else (none)) = some r := by first | (rw [hji39] at H; exact H) | (simp only [hji39] at H ⊢; exact H)
                          have hji39w : (IntKind.i64.wrap (x10_1 - 1)) = ji39 := (i64_w _).trans hji39
                          by_cases c40 : 0 ≤ (ji39)
                          · rw [if_pos c40] at H
                            have c40b0 : decide (0 ≤ (ji39)) = true := decide_eq_true c40
                            clear c40
                            by_cases c41 : (ji39) < (t106.length : Int)
                            · rw [if_pos c41] at H
                              have c41b0 : decide ((ji39) < (t106.length : Int)) = true := decide_eq_true c41
                              clear c41
                              by_cases c42 : ((rd_T35 t106 x10_1).f1) < ((rd_T35 t106 (ji39)).f1)
                              · rw [if_pos c42] at H; exact absurd (Option.some.inj H) (by rw [HRT.out]; decide)
                              · rw [if_neg c42] at H
                                have c42b0 : decide (((rd_T35 t106 x10_1).f1) < ((rd_T35 t106 (ji39)).f1)) = false := decide_eq_false c42
                                clear c42
                                by_cases c46 : ((rd_T35 t106 x10_1).f2) = 0
                                · rw [if_pos c46] at H
                                  have c46b0 : (((rd_T35 t106 x10_1).f2) == 0) = true := beq_iff_eq.mpr c46
                                  have c46b1 : (((rd_T35 t106 x10_1).f2) != 0) = false := bne_eq_false_iff_eq.mpr c46
                                  clear c46
                                  by_cases c47 : ((rd_T35 t106 x10_1).f3) = 0
                                  · rw [if_pos c47] at H
                                    have c47b0 : (((rd_T35 t106 x10_1).f3) == 0) = true := beq_iff_eq.mpr c47
                                    have c47b1 : (((rd_T35 t106 x10_1).f3) != 0) = false := bne_eq_false_iff_eq.mpr c47
                                    clear c47
                                    by_cases c48 : (x10_1 = (wrap64 ((t106.length : Int) - 1)))
                                    · rw [if_pos c48] at H
                                      have c48b0 : (x10_1 == (wrap64 ((t106.length : Int) - 1))) = true := beq_iff_eq.mpr c48
                                      have c48b1 : (x10_1 != (wrap64 ((t106.length : Int) - 1))) = false := bne_eq_false_iff_eq.mpr c48
                                      clear c48
                                      have H' := Aside0.mk H
                                      clear H
                                      obtain ⟨Ao49, co49, eo49⟩ := Kd.R_slice HO_7.out
                                      subst eo49
                                      have hnb50 := NB117_109.out
                                      have hnc50 := NB109_117.out
                                      have hcz51_0 : wr.cell? ⟨gb117, 0, none⟩ = some (.int .i64 ((rd_T35 t106 x10_1).f0)) := (blk_cell BK117.out 0).trans rfl
                                      have hcz51_1 : wr.cell? ⟨gb117, 1, none⟩ = some (.int .i64 ((rd_T35 t106 x10_1).f1)) := (blk_cell BK117.out 1).trans rfl
                                      have hcz51_2 : wr.cell? ⟨gb117, 2, none⟩ = some (.int .i64 ((rd_T35 t106 x10_1).f2)) := (blk_cell BK117.out 2).trans rfl
                                      have hcz51_3 : wr.cell? ⟨gb117, 3, none⟩ = some (.int .i64 ((rd_T35 t106 x10_1).f3)) := (blk_cell BK117.out 3).trans rfl
                                      have hfz51_0 := blk_frozen BK117.out 0
                                      have hfz51_1 := blk_frozen BK117.out 1
                                      have hfz51_2 := blk_frozen BK117.out 2
                                      have hfz51_3 := blk_frozen BK117.out 3
                                      have p119 : 0 ≤ ((ji39) : Int) := of_decide_eq_true (by first | (with_reducible assumption) | assumption)
                                      have q119 : (ji39) < (t106.length : Int) := of_decide_eq_true (by first | (with_reducible assumption) | assumption)
                                      obtain ⟨ad119, e119, hx119_0, hx119_1, hx119_2, hx119_3⟩ := at_T35 (Kd.R_reads' HO_6.out).2.2 (ji39) p119 q119
                                      obtain rfl : ad116 = ad119 := (by injection e119)
                                      replace p119 := eq_true p119
                                      replace q119 := eq_true q119
                                      go_wp2
                                      repeat (go_quiet (fail); try go_wp2)
                                      go_roundg k2
                                      case measure => have := HK1.out; have := HK2.out; omega
                                      case rel => exact ⟨(wrap64 (x10_1 + 1)), (by first | rfl | (simp; done) | (simp [*]; done)), H', ⟨by have := HK1.out; have := HK2.out; omega⟩, ⟨by (with_reducible repeat (first | apply Kd.R_alloc | apply Kd.R_drewN | apply Kd.R_drew)); exact Kd.R_mono HO_6.out (fun _ hk => trivial)⟩, ⟨by (with_reducible repeat (first | apply Kd.R_alloc | apply Kd.R_drewN | apply Kd.R_drew)); exact HO_7.out⟩, ⟨by (with_reducible repeat (first | apply Kd.R_alloc | apply Kd.R_drewN | apply Kd.R_drew)); exact HO_110000.out⟩, ⟨by (with_reducible repeat (first | refine blk_drewN ?_ _ | refine blk_drew ?_ | refine blk_alloc ?_ _)); exact BK109.out⟩, ⟨by repeat (first | (with_reducible first | exact HB.out | apply below_alloc | apply pw_below_drewN | apply below_drew1 | refine below_set ?_ GE109.out | refine below_set ?_ GE117.out) | exact HB.out)⟩⟩
                                    · rw [if_neg c48] at H
                                      have c48b0 : (x10_1 == (wrap64 ((t106.length : Int) - 1))) = false := beq_eq_false_iff_ne.mpr c48
                                      have c48b1 : (x10_1 != (wrap64 ((t106.length : Int) - 1))) = true := bne_iff_ne.mpr c48
                                      by_cases c52 : x12_2 = true
                                      · subst c52
                                        have H1 : (if ((rd_T35 t106 x10_1).f0) = 20 then (proofmarklaw02_SynPlaces.l0 k2 t101 t102 t106 t110 (wrap64 (x10_1 + 1))) else (if ((rd_T35 t106 x10_1).f0) = 2 then (proofmarklaw02_SynPlaces.l0 k2 t101 t102 t106 t110 (wrap64 (x10_1 + 1))) else (some false))) = some r := by rw [if_pos rfl] at H; exact H
                                        clear H
                                        have H := H1
                                        clear H1
                                        by_cases c53 : ((rd_T35 t106 x10_1).f0) = 20
                                        · rw [if_pos c53] at H
                                          have c53b0 : (((rd_T35 t106 x10_1).f0) == 20) = true := beq_iff_eq.mpr c53
                                          have c53b1 : (((rd_T35 t106 x10_1).f0) != 20) = false := bne_eq_false_iff_eq.mpr c53
                                          clear c53
                                          have H' := Aside0.mk H
                                          clear H
                                          obtain ⟨Ao54, co54, eo54⟩ := Kd.R_slice HO_7.out
                                          subst eo54
                                          have hnb55 := NB117_109.out
                                          have hnc55 := NB109_117.out
                                          have hcz56_0 : wr.cell? ⟨gb117, 0, none⟩ = some (.int .i64 ((rd_T35 t106 x10_1).f0)) := (blk_cell BK117.out 0).trans rfl
                                          have hcz56_1 : wr.cell? ⟨gb117, 1, none⟩ = some (.int .i64 ((rd_T35 t106 x10_1).f1)) := (blk_cell BK117.out 1).trans rfl
                                          have hcz56_2 : wr.cell? ⟨gb117, 2, none⟩ = some (.int .i64 ((rd_T35 t106 x10_1).f2)) := (blk_cell BK117.out 2).trans rfl
                                          have hcz56_3 : wr.cell? ⟨gb117, 3, none⟩ = some (.int .i64 ((rd_T35 t106 x10_1).f3)) := (blk_cell BK117.out 3).trans rfl
                                          have hfz56_0 := blk_frozen BK117.out 0
                                          have hfz56_1 := blk_frozen BK117.out 1
                                          have hfz56_2 := blk_frozen BK117.out 2
                                          have hfz56_3 := blk_frozen BK117.out 3
                                          have p119 : 0 ≤ ((ji39) : Int) := of_decide_eq_true (by first | (with_reducible assumption) | assumption)
                                          have q119 : (ji39) < (t106.length : Int) := of_decide_eq_true (by first | (with_reducible assumption) | assumption)
                                          obtain ⟨ad119, e119, hx119_0, hx119_1, hx119_2, hx119_3⟩ := at_T35 (Kd.R_reads' HO_6.out).2.2 (ji39) p119 q119
                                          obtain rfl : ad116 = ad119 := (by injection e119)
                                          replace p119 := eq_true p119
                                          replace q119 := eq_true q119
                                          go_wp2
                                          repeat (go_quiet (fail); try go_wp2)
                                          go_roundg k2
                                          case measure => have := HK1.out; have := HK2.out; omega
                                          case rel => exact ⟨(wrap64 (x10_1 + 1)), (by first | rfl | (simp; done) | (simp [*]; done)), H', ⟨by have := HK1.out; have := HK2.out; omega⟩, ⟨by (with_reducible repeat (first | apply Kd.R_alloc | apply Kd.R_drewN | apply Kd.R_drew)); exact Kd.R_mono HO_6.out (fun _ hk => trivial)⟩, ⟨by (with_reducible repeat (first | apply Kd.R_alloc | apply Kd.R_drewN | apply Kd.R_drew)); exact HO_7.out⟩, ⟨by (with_reducible repeat (first | apply Kd.R_alloc | apply Kd.R_drewN | apply Kd.R_drew)); exact HO_110000.out⟩, ⟨by (with_reducible repeat (first | refine blk_drewN ?_ _ | refine blk_drew ?_ | refine blk_alloc ?_ _)); exact BK109.out⟩, ⟨by repeat (first | (with_reducible first | exact HB.out | apply below_alloc | apply pw_below_drewN | apply below_drew1 | refine below_set ?_ GE109.out | refine below_set ?_ GE117.out) | exact HB.out)⟩⟩
                                        · rw [if_neg c53] at H
                                          have c53b0 : (((rd_T35 t106 x10_1).f0) == 20) = false := beq_eq_false_iff_ne.mpr c53
                                          have c53b1 : (((rd_T35 t106 x10_1).f0) != 20) = true := bne_iff_ne.mpr c53
                                          by_cases c57 : ((rd_T35 t106 x10_1).f0) = 2
                                          · rw [if_pos c57] at H
                                            have c57b0 : (((rd_T35 t106 x10_1).f0) == 2) = true := beq_iff_eq.mpr c57
                                            have c57b1 : (((rd_T35 t106 x10_1).f0) != 2) = false := bne_eq_false_iff_eq.mpr c57
                                            clear c57
                                            have H' := Aside0.mk H
                                            clear H
                                            obtain ⟨Ao58, co58, eo58⟩ := Kd.R_slice HO_7.out
                                            subst eo58
                                            have hnb59 := NB117_109.out
                                            have hnc59 := NB109_117.out
                                            have hcz60_0 : wr.cell? ⟨gb117, 0, none⟩ = some (.int .i64 ((rd_T35 t106 x10_1).f0)) := (blk_cell BK117.out 0).trans rfl
                                            have hcz60_1 : wr.cell? ⟨gb117, 1, none⟩ = some (.int .i64 ((rd_T35 t106 x10_1).f1)) := (blk_cell BK117.out 1).trans rfl
                                            have hcz60_2 : wr.cell? ⟨gb117, 2, none⟩ = some (.int .i64 ((rd_T35 t106 x10_1).f2)) := (blk_cell BK117.out 2).trans rfl
                                            have hcz60_3 : wr.cell? ⟨gb117, 3, none⟩ = some (.int .i64 ((rd_T35 t106 x10_1).f3)) := (blk_cell BK117.out 3).trans rfl
                                            have hfz60_0 := blk_frozen BK117.out 0
                                            have hfz60_1 := blk_frozen BK117.out 1
                                            have hfz60_2 := blk_frozen BK117.out 2
                                            have hfz60_3 := blk_frozen BK117.out 3
                                            have p119 : 0 ≤ ((ji39) : Int) := of_decide_eq_true (by first | (with_reducible assumption) | assumption)
                                            have q119 : (ji39) < (t106.length : Int) := of_decide_eq_true (by first | (with_reducible assumption) | assumption)
                                            obtain ⟨ad119, e119, hx119_0, hx119_1, hx119_2, hx119_3⟩ := at_T35 (Kd.R_reads' HO_6.out).2.2 (ji39) p119 q119
                                            obtain rfl : ad116 = ad119 := (by injection e119)
                                            replace p119 := eq_true p119
                                            replace q119 := eq_true q119
                                            go_wp2
                                            repeat (go_quiet (fail); try go_wp2)
                                            go_roundg k2
                                            case measure => have := HK1.out; have := HK2.out; omega
                                            case rel => exact ⟨(wrap64 (x10_1 + 1)), (by first | rfl | (simp; done) | (simp [*]; done)), H', ⟨by have := HK1.out; have := HK2.out; omega⟩, ⟨by (with_reducible repeat (first | apply Kd.R_alloc | apply Kd.R_drewN | apply Kd.R_drew)); exact Kd.R_mono HO_6.out (fun _ hk => trivial)⟩, ⟨by (with_reducible repeat (first | apply Kd.R_alloc | apply Kd.R_drewN | apply Kd.R_drew)); exact HO_7.out⟩, ⟨by (with_reducible repeat (first | apply Kd.R_alloc | apply Kd.R_drewN | apply Kd.R_drew)); exact HO_110000.out⟩, ⟨by (with_reducible repeat (first | refine blk_drewN ?_ _ | refine blk_drew ?_ | refine blk_alloc ?_ _)); exact BK109.out⟩, ⟨by repeat (first | (with_reducible first | exact HB.out | apply below_alloc | apply pw_below_drewN | apply below_drew1 | refine below_set ?_ GE109.out | refine below_set ?_ GE117.out) | exact HB.out)⟩⟩
                                          · rw [if_neg c57] at H; exact absurd (Option.some.inj H) (by rw [HRT.out]; decide)
                                      · replace c52 := Bool.eq_false_iff.mpr c52
                                        subst c52
                                        have H1 : (some false) = some r := by rw [if_neg (show ¬ (false = true) by decide)] at H; exact H
                                        exact absurd (Option.some.inj H1) (by rw [HRT.out]; decide)
                                  · rw [if_neg c47] at H; exact absurd (Option.some.inj H) (by rw [HRT.out]; decide)
                                · rw [if_neg c46] at H; exact absurd (Option.some.inj H) (by rw [HRT.out]; decide)
                            · rw [if_neg c41] at H
                              exact absurd H (by simp)
                          · rw [if_neg c40] at H
                            exact absurd H (by simp)
                        · rw [if_neg c38] at H
                          have c38b0 : decide (0 < x10_1) = false := decide_eq_false c38
                          clear c38
                          by_cases c73 : ((rd_T35 t106 x10_1).f2) = 0
                          · rw [if_pos c73] at H
                            have c73b0 : (((rd_T35 t106 x10_1).f2) == 0) = true := beq_iff_eq.mpr c73
                            have c73b1 : (((rd_T35 t106 x10_1).f2) != 0) = false := bne_eq_false_iff_eq.mpr c73
                            clear c73
                            by_cases c74 : ((rd_T35 t106 x10_1).f3) = 0
                            · rw [if_pos c74] at H
                              have c74b0 : (((rd_T35 t106 x10_1).f3) == 0) = true := beq_iff_eq.mpr c74
                              have c74b1 : (((rd_T35 t106 x10_1).f3) != 0) = false := bne_eq_false_iff_eq.mpr c74
                              clear c74
                              by_cases c75 : (x10_1 = (wrap64 ((t106.length : Int) - 1)))
                              · rw [if_pos c75] at H
                                have c75b0 : (x10_1 == (wrap64 ((t106.length : Int) - 1))) = true := beq_iff_eq.mpr c75
                                have c75b1 : (x10_1 != (wrap64 ((t106.length : Int) - 1))) = false := bne_eq_false_iff_eq.mpr c75
                                clear c75
                                have H' := Aside0.mk H
                                clear H
                                obtain ⟨Ao76, co76, eo76⟩ := Kd.R_slice HO_7.out
                                subst eo76
                                have hnb77 := NB117_109.out
                                have hnc77 := NB109_117.out
                                have hcz78_0 : wr.cell? ⟨gb117, 0, none⟩ = some (.int .i64 ((rd_T35 t106 x10_1).f0)) := (blk_cell BK117.out 0).trans rfl
                                have hcz78_1 : wr.cell? ⟨gb117, 1, none⟩ = some (.int .i64 ((rd_T35 t106 x10_1).f1)) := (blk_cell BK117.out 1).trans rfl
                                have hcz78_2 : wr.cell? ⟨gb117, 2, none⟩ = some (.int .i64 ((rd_T35 t106 x10_1).f2)) := (blk_cell BK117.out 2).trans rfl
                                have hcz78_3 : wr.cell? ⟨gb117, 3, none⟩ = some (.int .i64 ((rd_T35 t106 x10_1).f3)) := (blk_cell BK117.out 3).trans rfl
                                have hfz78_0 := blk_frozen BK117.out 0
                                have hfz78_1 := blk_frozen BK117.out 1
                                have hfz78_2 := blk_frozen BK117.out 2
                                have hfz78_3 := blk_frozen BK117.out 3
                                go_wp2
                                repeat (go_quiet (fail); try go_wp2)
                                go_roundg k2
                                case measure => have := HK1.out; have := HK2.out; omega
                                case rel => exact ⟨(wrap64 (x10_1 + 1)), (by first | rfl | (simp; done) | (simp [*]; done)), H', ⟨by have := HK1.out; have := HK2.out; omega⟩, ⟨by (with_reducible repeat (first | apply Kd.R_alloc | apply Kd.R_drewN | apply Kd.R_drew)); exact Kd.R_mono HO_6.out (fun _ hk => trivial)⟩, ⟨by (with_reducible repeat (first | apply Kd.R_alloc | apply Kd.R_drewN | apply Kd.R_drew)); exact HO_7.out⟩, ⟨by (with_reducible repeat (first | apply Kd.R_alloc | apply Kd.R_drewN | apply Kd.R_drew)); exact HO_110000.out⟩, ⟨by (with_reducible repeat (first | refine blk_drewN ?_ _ | refine blk_drew ?_ | refine blk_alloc ?_ _)); exact BK109.out⟩, ⟨by repeat (first | (with_reducible first | exact HB.out | apply below_alloc | apply pw_below_drewN | apply below_drew1 | refine below_set ?_ GE109.out | refine below_set ?_ GE117.out) | exact HB.out)⟩⟩
                              · rw [if_neg c75] at H
                                have c75b0 : (x10_1 == (wrap64 ((t106.length : Int) - 1))) = false := beq_eq_false_iff_ne.mpr c75
                                have c75b1 : (x10_1 != (wrap64 ((t106.length : Int) - 1))) = true := bne_iff_ne.mpr c75
                                by_cases c79 : x12_2 = true
                                · subst c79
                                  have H1 : (if ((rd_T35 t106 x10_1).f0) = 20 then (proofmarklaw02_SynPlaces.l0 k2 t101 t102 t106 t110 (wrap64 (x10_1 + 1))) else (if ((rd_T35 t106 x10_1).f0) = 2 then (proofmarklaw02_SynPlaces.l0 k2 t101 t102 t106 t110 (wrap64 (x10_1 + 1))) else (some false))) = some r := by rw [if_pos rfl] at H; exact H
                                  clear H
                                  have H := H1
                                  clear H1
                                  by_cases c80 : ((rd_T35 t106 x10_1).f0) = 20
                                  · rw [if_pos c80] at H
                                    have c80b0 : (((rd_T35 t106 x10_1).f0) == 20) = true := beq_iff_eq.mpr c80
                                    have c80b1 : (((rd_T35 t106 x10_1).f0) != 20) = false := bne_eq_false_iff_eq.mpr c80
                                    clear c80
                                    have H' := Aside0.mk H
                                    clear H
                                    obtain ⟨Ao81, co81, eo81⟩ := Kd.R_slice HO_7.out
                                    subst eo81
                                    have hnb82 := NB117_109.out
                                    have hnc82 := NB109_117.out
                                    have hcz83_0 : wr.cell? ⟨gb117, 0, none⟩ = some (.int .i64 ((rd_T35 t106 x10_1).f0)) := (blk_cell BK117.out 0).trans rfl
                                    have hcz83_1 : wr.cell? ⟨gb117, 1, none⟩ = some (.int .i64 ((rd_T35 t106 x10_1).f1)) := (blk_cell BK117.out 1).trans rfl
                                    have hcz83_2 : wr.cell? ⟨gb117, 2, none⟩ = some (.int .i64 ((rd_T35 t106 x10_1).f2)) := (blk_cell BK117.out 2).trans rfl
                                    have hcz83_3 : wr.cell? ⟨gb117, 3, none⟩ = some (.int .i64 ((rd_T35 t106 x10_1).f3)) := (blk_cell BK117.out 3).trans rfl
                                    have hfz83_0 := blk_frozen BK117.out 0
                                    have hfz83_1 := blk_frozen BK117.out 1
                                    have hfz83_2 := blk_frozen BK117.out 2
                                    have hfz83_3 := blk_frozen BK117.out 3
                                    go_wp2
                                    repeat (go_quiet (fail); try go_wp2)
                                    go_roundg k2
                                    case measure => have := HK1.out; have := HK2.out; omega
                                    case rel => exact ⟨(wrap64 (x10_1 + 1)), (by first | rfl | (simp; done) | (simp [*]; done)), H', ⟨by have := HK1.out; have := HK2.out; omega⟩, ⟨by (with_reducible repeat (first | apply Kd.R_alloc | apply Kd.R_drewN | apply Kd.R_drew)); exact Kd.R_mono HO_6.out (fun _ hk => trivial)⟩, ⟨by (with_reducible repeat (first | apply Kd.R_alloc | apply Kd.R_drewN | apply Kd.R_drew)); exact HO_7.out⟩, ⟨by (with_reducible repeat (first | apply Kd.R_alloc | apply Kd.R_drewN | apply Kd.R_drew)); exact HO_110000.out⟩, ⟨by (with_reducible repeat (first | refine blk_drewN ?_ _ | refine blk_drew ?_ | refine blk_alloc ?_ _)); exact BK109.out⟩, ⟨by repeat (first | (with_reducible first | exact HB.out | apply below_alloc | apply pw_below_drewN | apply below_drew1 | refine below_set ?_ GE109.out | refine below_set ?_ GE117.out) | exact HB.out)⟩⟩
                                  · rw [if_neg c80] at H
                                    have c80b0 : (((rd_T35 t106 x10_1).f0) == 20) = false := beq_eq_false_iff_ne.mpr c80
                                    have c80b1 : (((rd_T35 t106 x10_1).f0) != 20) = true := bne_iff_ne.mpr c80
                                    by_cases c84 : ((rd_T35 t106 x10_1).f0) = 2
                                    · rw [if_pos c84] at H
                                      have c84b0 : (((rd_T35 t106 x10_1).f0) == 2) = true := beq_iff_eq.mpr c84
                                      have c84b1 : (((rd_T35 t106 x10_1).f0) != 2) = false := bne_eq_false_iff_eq.mpr c84
                                      clear c84
                                      have H' := Aside0.mk H
                                      clear H
                                      obtain ⟨Ao85, co85, eo85⟩ := Kd.R_slice HO_7.out
                                      subst eo85
                                      have hnb86 := NB117_109.out
                                      have hnc86 := NB109_117.out
                                      have hcz87_0 : wr.cell? ⟨gb117, 0, none⟩ = some (.int .i64 ((rd_T35 t106 x10_1).f0)) := (blk_cell BK117.out 0).trans rfl
                                      have hcz87_1 : wr.cell? ⟨gb117, 1, none⟩ = some (.int .i64 ((rd_T35 t106 x10_1).f1)) := (blk_cell BK117.out 1).trans rfl
                                      have hcz87_2 : wr.cell? ⟨gb117, 2, none⟩ = some (.int .i64 ((rd_T35 t106 x10_1).f2)) := (blk_cell BK117.out 2).trans rfl
                                      have hcz87_3 : wr.cell? ⟨gb117, 3, none⟩ = some (.int .i64 ((rd_T35 t106 x10_1).f3)) := (blk_cell BK117.out 3).trans rfl
                                      have hfz87_0 := blk_frozen BK117.out 0
                                      have hfz87_1 := blk_frozen BK117.out 1
                                      have hfz87_2 := blk_frozen BK117.out 2
                                      have hfz87_3 := blk_frozen BK117.out 3
                                      go_wp2
                                      repeat (go_quiet (fail); try go_wp2)
                                      go_roundg k2
                                      case measure => have := HK1.out; have := HK2.out; omega
                                      case rel => exact ⟨(wrap64 (x10_1 + 1)), (by first | rfl | (simp; done) | (simp [*]; done)), H', ⟨by have := HK1.out; have := HK2.out; omega⟩, ⟨by (with_reducible repeat (first | apply Kd.R_alloc | apply Kd.R_drewN | apply Kd.R_drew)); exact Kd.R_mono HO_6.out (fun _ hk => trivial)⟩, ⟨by (with_reducible repeat (first | apply Kd.R_alloc | apply Kd.R_drewN | apply Kd.R_drew)); exact HO_7.out⟩, ⟨by (with_reducible repeat (first | apply Kd.R_alloc | apply Kd.R_drewN | apply Kd.R_drew)); exact HO_110000.out⟩, ⟨by (with_reducible repeat (first | refine blk_drewN ?_ _ | refine blk_drew ?_ | refine blk_alloc ?_ _)); exact BK109.out⟩, ⟨by repeat (first | (with_reducible first | exact HB.out | apply below_alloc | apply pw_below_drewN | apply below_drew1 | refine below_set ?_ GE109.out | refine below_set ?_ GE117.out) | exact HB.out)⟩⟩
                                    · rw [if_neg c84] at H; exact absurd (Option.some.inj H) (by rw [HRT.out]; decide)
                                · replace c79 := Bool.eq_false_iff.mpr c79
                                  subst c79
                                  have H1 : (some false) = some r := by rw [if_neg (show ¬ (false = true) by decide)] at H; exact H
                                  exact absurd (Option.some.inj H1) (by rw [HRT.out]; decide)
                            · rw [if_neg c74] at H
                              have c74b0 : (((rd_T35 t106 x10_1).f3) == 0) = false := beq_eq_false_iff_ne.mpr c74
                              have c74b1 : (((rd_T35 t106 x10_1).f3) != 0) = true := bne_iff_ne.mpr c74
                              obtain rfl := Option.some.inj H
                              obtain ⟨Ao94, co94, eo94⟩ := Kd.R_slice HO_7.out
                              subst eo94
                              have hnb95 := NB117_109.out
                              have hnc95 := NB109_117.out
                              have hcz96_0 : wr.cell? ⟨gb117, 0, none⟩ = some (.int .i64 ((rd_T35 t106 x10_1).f0)) := (blk_cell BK117.out 0).trans rfl
                              have hcz96_1 : wr.cell? ⟨gb117, 1, none⟩ = some (.int .i64 ((rd_T35 t106 x10_1).f1)) := (blk_cell BK117.out 1).trans rfl
                              have hcz96_2 : wr.cell? ⟨gb117, 2, none⟩ = some (.int .i64 ((rd_T35 t106 x10_1).f2)) := (blk_cell BK117.out 2).trans rfl
                              have hcz96_3 : wr.cell? ⟨gb117, 3, none⟩ = some (.int .i64 ((rd_T35 t106 x10_1).f3)) := (blk_cell BK117.out 3).trans rfl
                              have hfz96_0 := blk_frozen BK117.out 0
                              have hfz96_1 := blk_frozen BK117.out 1
                              have hfz96_2 := blk_frozen BK117.out 2
                              have hfz96_3 := blk_frozen BK117.out 3
                              go_wp2
                              repeat (go_quiet (fail); try go_wp2)
                              go_ret
                              exact ⟨by first | rfl | (simp [errW_none, errW_some] <;> rfl) | (simp [*, errW_none, errW_some] <;> rfl), by repeat (first | (with_reducible first | exact HB.out | apply below_alloc | apply pw_below_drewN | apply below_drew1 | refine below_set ?_ GE109.out | refine below_set ?_ GE117.out) | exact HB.out)⟩
                          · rw [if_neg c73] at H
                            have c73b0 : (((rd_T35 t106 x10_1).f2) == 0) = false := beq_eq_false_iff_ne.mpr c73
                            have c73b1 : (((rd_T35 t106 x10_1).f2) != 0) = true := bne_iff_ne.mpr c73
                            obtain rfl := Option.some.inj H
                            obtain ⟨Ao97, co97, eo97⟩ := Kd.R_slice HO_7.out
                            subst eo97
                            have hnb98 := NB117_109.out
                            have hnc98 := NB109_117.out
                            have hcz99_0 : wr.cell? ⟨gb117, 0, none⟩ = some (.int .i64 ((rd_T35 t106 x10_1).f0)) := (blk_cell BK117.out 0).trans rfl
                            have hcz99_1 : wr.cell? ⟨gb117, 1, none⟩ = some (.int .i64 ((rd_T35 t106 x10_1).f1)) := (blk_cell BK117.out 1).trans rfl
                            have hcz99_2 : wr.cell? ⟨gb117, 2, none⟩ = some (.int .i64 ((rd_T35 t106 x10_1).f2)) := (blk_cell BK117.out 2).trans rfl
                            have hcz99_3 : wr.cell? ⟨gb117, 3, none⟩ = some (.int .i64 ((rd_T35 t106 x10_1).f3)) := (blk_cell BK117.out 3).trans rfl
                            have hfz99_0 := blk_frozen BK117.out 0
                            have hfz99_1 := blk_frozen BK117.out 1
                            have hfz99_2 := blk_frozen BK117.out 2
                            have hfz99_3 := blk_frozen BK117.out 3
                            go_wp2
                            repeat (go_quiet (fail); try go_wp2)
                            go_ret
                            exact ⟨by first | rfl | (simp [errW_none, errW_some] <;> rfl) | (simp [*, errW_none, errW_some] <;> rfl), by repeat (first | (with_reducible first | exact HB.out | apply below_alloc | apply pw_below_drewN | apply below_drew1 | refine below_set ?_ GE109.out | refine below_set ?_ GE117.out) | exact HB.out)⟩
                      · rw [if_neg c37] at H
                        have c37b0 : (((rd_T35 t106 x10_1).f1) == (t102.size : Int)) = false := beq_eq_false_iff_ne.mpr c37
                        have c37b1 : (((rd_T35 t106 x10_1).f1) != (t102.size : Int)) = true := bne_iff_ne.mpr c37
                        by_cases c100 : x10_1 > 0
                        · rw [if_pos c100] at H
                          have c100b0 : decide (0 < x10_1) = true := decide_eq_true c100
                          clear c100
                          obtain ⟨ji101, hji101⟩ : ∃ j_ : Int, (wrap64 (x10_1 - 1)) = j_ := ⟨_, rfl⟩
                          replace H : (if 0 ≤ (ji101) then (if (ji101) < (t106.length : Int) then (if ((rd_T35 t106 x10_1).f1) < ((rd_T35 t106 (ji101)).f1) then (some false) else (if ((rd_T35 t106 x10_1).f2) = 0 then (if ((rd_T35 t106 x10_1).f3) = 0 then (if x12_2 = true then (if ((rd_T35 t106 x10_1).f0) = 20 then (proofmarklaw02_SynPlaces.l0 k2 t101 t102 t106 t110 (wrap64 (x10_1 + 1))) else (if ((rd_T35 t106 x10_1).f0) = 2 then (proofmarklaw02_SynPlaces.l0 k2 t101 t102 t106 t110 (wrap64 (x10_1 + 1))) else (some false))) else (some false)) else (some false)) else (some false))) else (none)) else (none)) = some r := by first | (rw [hji101] at H; exact H) | (simp only [hji101] at H ⊢; exact H)
                          have hji101w : (IntKind.i64.wrap (x10_1 - 1)) = ji101 := (i64_w _).trans hji101
                          by_cases c102 : 0 ≤ (ji101)
                          · rw [if_pos c102] at H
                            have c102b0 : decide (0 ≤ (ji101)) = true := decide_eq_true c102
                            clear c102
                            by_cases c103 : (ji101) < (t106.length : Int)
                            · rw [if_pos c103] at H
                              have c103b0 : decide ((ji101) < (t106.length : Int)) = true := decide_eq_true c103
                              clear c103
                              by_cases c104 : ((rd_T35 t106 x10_1).f1) < ((rd_T35 t106 (ji101)).f1)
                              · rw [if_pos c104] at H; exact absurd (Option.some.inj H) (by rw [HRT.out]; decide)
                              · rw [if_neg c104] at H
                                have c104b0 : decide (((rd_T35 t106 x10_1).f1) < ((rd_T35 t106 (ji101)).f1)) = false := decide_eq_false c104
                                clear c104
                                by_cases c108 : ((rd_T35 t106 x10_1).f2) = 0
                                · rw [if_pos c108] at H
                                  have c108b0 : (((rd_T35 t106 x10_1).f2) == 0) = true := beq_iff_eq.mpr c108
                                  have c108b1 : (((rd_T35 t106 x10_1).f2) != 0) = false := bne_eq_false_iff_eq.mpr c108
                                  clear c108
                                  by_cases c109 : ((rd_T35 t106 x10_1).f3) = 0
                                  · rw [if_pos c109] at H
                                    have c109b0 : (((rd_T35 t106 x10_1).f3) == 0) = true := beq_iff_eq.mpr c109
                                    have c109b1 : (((rd_T35 t106 x10_1).f3) != 0) = false := bne_eq_false_iff_eq.mpr c109
                                    clear c109
                                    by_cases c110 : x12_2 = true
                                    · subst c110
                                      have H1 : (if ((rd_T35 t106 x10_1).f0) = 20 then (proofmarklaw02_SynPlaces.l0 k2 t101 t102 t106 t110 (wrap64 (x10_1 + 1))) else (if ((rd_T35 t106 x10_1).f0) = 2 then (proofmarklaw02_SynPlaces.l0 k2 t101 t102 t106 t110 (wrap64 (x10_1 + 1))) else (some false))) = some r := by rw [if_pos rfl] at H; exact H
                                      clear H
                                      have H := H1
                                      clear H1
                                      by_cases c111 : ((rd_T35 t106 x10_1).f0) = 20
                                      · rw [if_pos c111] at H
                                        have c111b0 : (((rd_T35 t106 x10_1).f0) == 20) = true := beq_iff_eq.mpr c111
                                        have c111b1 : (((rd_T35 t106 x10_1).f0) != 20) = false := bne_eq_false_iff_eq.mpr c111
                                        clear c111
                                        have H' := Aside0.mk H
                                        clear H
                                        obtain ⟨Ao112, co112, eo112⟩ := Kd.R_slice HO_7.out
                                        subst eo112
                                        have hnb113 := NB117_109.out
                                        have hnc113 := NB109_117.out
                                        have hcz114_0 : wr.cell? ⟨gb117, 0, none⟩ = some (.int .i64 ((rd_T35 t106 x10_1).f0)) := (blk_cell BK117.out 0).trans rfl
                                        have hcz114_1 : wr.cell? ⟨gb117, 1, none⟩ = some (.int .i64 ((rd_T35 t106 x10_1).f1)) := (blk_cell BK117.out 1).trans rfl
                                        have hcz114_2 : wr.cell? ⟨gb117, 2, none⟩ = some (.int .i64 ((rd_T35 t106 x10_1).f2)) := (blk_cell BK117.out 2).trans rfl
                                        have hcz114_3 : wr.cell? ⟨gb117, 3, none⟩ = some (.int .i64 ((rd_T35 t106 x10_1).f3)) := (blk_cell BK117.out 3).trans rfl
                                        have hfz114_0 := blk_frozen BK117.out 0
                                        have hfz114_1 := blk_frozen BK117.out 1
                                        have hfz114_2 := blk_frozen BK117.out 2
                                        have hfz114_3 := blk_frozen BK117.out 3
                                        have p120 : 0 ≤ ((ji101) : Int) := of_decide_eq_true (by first | (with_reducible assumption) | assumption)
                                        have q120 : (ji101) < (t106.length : Int) := of_decide_eq_true (by first | (with_reducible assumption) | assumption)
                                        obtain ⟨ad120, e120, hx120_0, hx120_1, hx120_2, hx120_3⟩ := at_T35 (Kd.R_reads' HO_6.out).2.2 (ji101) p120 q120
                                        obtain rfl : ad116 = ad120 := (by injection e120)
                                        replace p120 := eq_true p120
                                        replace q120 := eq_true q120
                                        go_wp2
                                        repeat (go_quiet (fail); try go_wp2)
                                        go_roundg k2
                                        case measure => have := HK1.out; have := HK2.out; omega
                                        case rel => exact ⟨(wrap64 (x10_1 + 1)), (by first | rfl | (simp; done) | (simp [*]; done)), H', ⟨by have := HK1.out; have := HK2.out; omega⟩, ⟨by (with_reducible repeat (first | apply Kd.R_alloc | apply Kd.R_drewN | apply Kd.R_drew)); exact Kd.R_mono HO_6.out (fun _ hk => trivial)⟩, ⟨by (with_reducible repeat (first | apply Kd.R_alloc | apply Kd.R_drewN | apply Kd.R_drew)); exact HO_7.out⟩, ⟨by (with_reducible repeat (first | apply Kd.R_alloc | apply Kd.R_drewN | apply Kd.R_drew)); exact HO_110000.out⟩, ⟨by (with_reducible repeat (first | refine blk_drewN ?_ _ | refine blk_drew ?_ | refine blk_alloc ?_ _)); exact BK109.out⟩, ⟨by repeat (first | (with_reducible first | exact HB.out | apply below_alloc | apply pw_below_drewN | apply below_drew1 | refine below_set ?_ GE109.out | refine below_set ?_ GE117.out) | exact HB.out)⟩⟩
                                      · rw [if_neg c111] at H
                                        have c111b0 : (((rd_T35 t106 x10_1).f0) == 20) = false := beq_eq_false_iff_ne.mpr c111
                                        have c111b1 : (((rd_T35 t106 x10_1).f0) != 20) = true := bne_iff_ne.mpr c111
                                        by_cases c115 : ((rd_T35 t106 x10_1).f0) = 2
                                        · rw [if_pos c115] at H
                                          have c115b0 : (((rd_T35 t106 x10_1).f0) == 2) = true := beq_iff_eq.mpr c115
                                          have c115b1 : (((rd_T35 t106 x10_1).f0) != 2) = false := bne_eq_false_iff_eq.mpr c115
                                          clear c115
                                          have H' := Aside0.mk H
                                          clear H
                                          obtain ⟨Ao116, co116, eo116⟩ := Kd.R_slice HO_7.out
                                          subst eo116
                                          have hnb117 := NB117_109.out
                                          have hnc117 := NB109_117.out
                                          have hcz118_0 : wr.cell? ⟨gb117, 0, none⟩ = some (.int .i64 ((rd_T35 t106 x10_1).f0)) := (blk_cell BK117.out 0).trans rfl
                                          have hcz118_1 : wr.cell? ⟨gb117, 1, none⟩ = some (.int .i64 ((rd_T35 t106 x10_1).f1)) := (blk_cell BK117.out 1).trans rfl
                                          have hcz118_2 : wr.cell? ⟨gb117, 2, none⟩ = some (.int .i64 ((rd_T35 t106 x10_1).f2)) := (blk_cell BK117.out 2).trans rfl
                                          have hcz118_3 : wr.cell? ⟨gb117, 3, none⟩ = some (.int .i64 ((rd_T35 t106 x10_1).f3)) := (blk_cell BK117.out 3).trans rfl
                                          have hfz118_0 := blk_frozen BK117.out 0
                                          have hfz118_1 := blk_frozen BK117.out 1
                                          have hfz118_2 := blk_frozen BK117.out 2
                                          have hfz118_3 := blk_frozen BK117.out 3
                                          have p120 : 0 ≤ ((ji101) : Int) := of_decide_eq_true (by first | (with_reducible assumption) | assumption)
                                          have q120 : (ji101) < (t106.length : Int) := of_decide_eq_true (by first | (with_reducible assumption) | assumption)
                                          obtain ⟨ad120, e120, hx120_0, hx120_1, hx120_2, hx120_3⟩ := at_T35 (Kd.R_reads' HO_6.out).2.2 (ji101) p120 q120
                                          obtain rfl : ad116 = ad120 := (by injection e120)
                                          replace p120 := eq_true p120
                                          replace q120 := eq_true q120
                                          go_wp2
                                          repeat (go_quiet (fail); try go_wp2)
                                          go_roundg k2
                                          case measure => have := HK1.out; have := HK2.out; omega
                                          case rel => exact ⟨(wrap64 (x10_1 + 1)), (by first | rfl | (simp; done) | (simp [*]; done)), H', ⟨by have := HK1.out; have := HK2.out; omega⟩, ⟨by (with_reducible repeat (first | apply Kd.R_alloc | apply Kd.R_drewN | apply Kd.R_drew)); exact Kd.R_mono HO_6.out (fun _ hk => trivial)⟩, ⟨by (with_reducible repeat (first | apply Kd.R_alloc | apply Kd.R_drewN | apply Kd.R_drew)); exact HO_7.out⟩, ⟨by (with_reducible repeat (first | apply Kd.R_alloc | apply Kd.R_drewN | apply Kd.R_drew)); exact HO_110000.out⟩, ⟨by (with_reducible repeat (first | refine blk_drewN ?_ _ | refine blk_drew ?_ | refine blk_alloc ?_ _)); exact BK109.out⟩, ⟨by repeat (first | (with_reducible first | exact HB.out | apply below_alloc | apply pw_below_drewN | apply below_drew1 | refine below_set ?_ GE109.out | refine below_set ?_ GE117.out) | exact HB.out)⟩⟩
                                        · rw [if_neg c115] at H; exact absurd (Option.some.inj H) (by rw [HRT.out]; decide)
                                    · replace c110 := Bool.eq_false_iff.mpr c110
                                      subst c110
                                      have H1 : (some false) = some r := by rw [if_neg (show ¬ (false = true) by decide)] at H; exact H
                                      exact absurd (Option.some.inj H1) (by rw [HRT.out]; decide)
                                  · rw [if_neg c109] at H; exact absurd (Option.some.inj H) (by rw [HRT.out]; decide)
                                · rw [if_neg c108] at H; exact absurd (Option.some.inj H) (by rw [HRT.out]; decide)
                            · rw [if_neg c103] at H
                              exact absurd H (by simp)
                          · rw [if_neg c102] at H
                            exact absurd H (by simp)
                        · rw [if_neg c100] at H
                          have c100b0 : decide (0 < x10_1) = false := decide_eq_false c100
                          clear c100
                          by_cases c131 : ((rd_T35 t106 x10_1).f2) = 0
                          · rw [if_pos c131] at H
                            have c131b0 : (((rd_T35 t106 x10_1).f2) == 0) = true := beq_iff_eq.mpr c131
                            have c131b1 : (((rd_T35 t106 x10_1).f2) != 0) = false := bne_eq_false_iff_eq.mpr c131
                            clear c131
                            by_cases c132 : ((rd_T35 t106 x10_1).f3) = 0
                            · rw [if_pos c132] at H
                              have c132b0 : (((rd_T35 t106 x10_1).f3) == 0) = true := beq_iff_eq.mpr c132
                              have c132b1 : (((rd_T35 t106 x10_1).f3) != 0) = false := bne_eq_false_iff_eq.mpr c132
                              clear c132
                              by_cases c133 : x12_2 = true
                              · subst c133
                                have H1 : (if ((rd_T35 t106 x10_1).f0) = 20 then (proofmarklaw02_SynPlaces.l0 k2 t101 t102 t106 t110 (wrap64 (x10_1 + 1))) else (if ((rd_T35 t106 x10_1).f0) = 2 then (proofmarklaw02_SynPlaces.l0 k2 t101 t102 t106 t110 (wrap64 (x10_1 + 1))) else (some false))) = some r := by rw [if_pos rfl] at H; exact H
                                clear H
                                have H := H1
                                clear H1
                                by_cases c134 : ((rd_T35 t106 x10_1).f0) = 20
                                · rw [if_pos c134] at H
                                  have c134b0 : (((rd_T35 t106 x10_1).f0) == 20) = true := beq_iff_eq.mpr c134
                                  have c134b1 : (((rd_T35 t106 x10_1).f0) != 20) = false := bne_eq_false_iff_eq.mpr c134
                                  clear c134
                                  have H' := Aside0.mk H
                                  clear H
                                  obtain ⟨Ao135, co135, eo135⟩ := Kd.R_slice HO_7.out
                                  subst eo135
                                  have hnb136 := NB117_109.out
                                  have hnc136 := NB109_117.out
                                  have hcz137_0 : wr.cell? ⟨gb117, 0, none⟩ = some (.int .i64 ((rd_T35 t106 x10_1).f0)) := (blk_cell BK117.out 0).trans rfl
                                  have hcz137_1 : wr.cell? ⟨gb117, 1, none⟩ = some (.int .i64 ((rd_T35 t106 x10_1).f1)) := (blk_cell BK117.out 1).trans rfl
                                  have hcz137_2 : wr.cell? ⟨gb117, 2, none⟩ = some (.int .i64 ((rd_T35 t106 x10_1).f2)) := (blk_cell BK117.out 2).trans rfl
                                  have hcz137_3 : wr.cell? ⟨gb117, 3, none⟩ = some (.int .i64 ((rd_T35 t106 x10_1).f3)) := (blk_cell BK117.out 3).trans rfl
                                  have hfz137_0 := blk_frozen BK117.out 0
                                  have hfz137_1 := blk_frozen BK117.out 1
                                  have hfz137_2 := blk_frozen BK117.out 2
                                  have hfz137_3 := blk_frozen BK117.out 3
                                  go_wp2
                                  repeat (go_quiet (fail); try go_wp2)
                                  go_roundg k2
                                  case measure => have := HK1.out; have := HK2.out; omega
                                  case rel => exact ⟨(wrap64 (x10_1 + 1)), (by first | rfl | (simp; done) | (simp [*]; done)), H', ⟨by have := HK1.out; have := HK2.out; omega⟩, ⟨by (with_reducible repeat (first | apply Kd.R_alloc | apply Kd.R_drewN | apply Kd.R_drew)); exact Kd.R_mono HO_6.out (fun _ hk => trivial)⟩, ⟨by (with_reducible repeat (first | apply Kd.R_alloc | apply Kd.R_drewN | apply Kd.R_drew)); exact HO_7.out⟩, ⟨by (with_reducible repeat (first | apply Kd.R_alloc | apply Kd.R_drewN | apply Kd.R_drew)); exact HO_110000.out⟩, ⟨by (with_reducible repeat (first | refine blk_drewN ?_ _ | refine blk_drew ?_ | refine blk_alloc ?_ _)); exact BK109.out⟩, ⟨by repeat (first | (with_reducible first | exact HB.out | apply below_alloc | apply pw_below_drewN | apply below_drew1 | refine below_set ?_ GE109.out | refine below_set ?_ GE117.out) | exact HB.out)⟩⟩
                                · rw [if_neg c134] at H
                                  have c134b0 : (((rd_T35 t106 x10_1).f0) == 20) = false := beq_eq_false_iff_ne.mpr c134
                                  have c134b1 : (((rd_T35 t106 x10_1).f0) != 20) = true := bne_iff_ne.mpr c134
                                  by_cases c138 : ((rd_T35 t106 x10_1).f0) = 2
                                  · rw [if_pos c138] at H
                                    have c138b0 : (((rd_T35 t106 x10_1).f0) == 2) = true := beq_iff_eq.mpr c138
                                    have c138b1 : (((rd_T35 t106 x10_1).f0) != 2) = false := bne_eq_false_iff_eq.mpr c138
                                    clear c138
                                    have H' := Aside0.mk H
                                    clear H
                                    obtain ⟨Ao139, co139, eo139⟩ := Kd.R_slice HO_7.out
                                    subst eo139
                                    have hnb140 := NB117_109.out
                                    have hnc140 := NB109_117.out
                                    have hcz141_0 : wr.cell? ⟨gb117, 0, none⟩ = some (.int .i64 ((rd_T35 t106 x10_1).f0)) := (blk_cell BK117.out 0).trans rfl
                                    have hcz141_1 : wr.cell? ⟨gb117, 1, none⟩ = some (.int .i64 ((rd_T35 t106 x10_1).f1)) := (blk_cell BK117.out 1).trans rfl
                                    have hcz141_2 : wr.cell? ⟨gb117, 2, none⟩ = some (.int .i64 ((rd_T35 t106 x10_1).f2)) := (blk_cell BK117.out 2).trans rfl
                                    have hcz141_3 : wr.cell? ⟨gb117, 3, none⟩ = some (.int .i64 ((rd_T35 t106 x10_1).f3)) := (blk_cell BK117.out 3).trans rfl
                                    have hfz141_0 := blk_frozen BK117.out 0
                                    have hfz141_1 := blk_frozen BK117.out 1
                                    have hfz141_2 := blk_frozen BK117.out 2
                                    have hfz141_3 := blk_frozen BK117.out 3
                                    go_wp2
                                    repeat (go_quiet (fail); try go_wp2)
                                    go_roundg k2
                                    case measure => have := HK1.out; have := HK2.out; omega
                                    case rel => exact ⟨(wrap64 (x10_1 + 1)), (by first | rfl | (simp; done) | (simp [*]; done)), H', ⟨by have := HK1.out; have := HK2.out; omega⟩, ⟨by (with_reducible repeat (first | apply Kd.R_alloc | apply Kd.R_drewN | apply Kd.R_drew)); exact Kd.R_mono HO_6.out (fun _ hk => trivial)⟩, ⟨by (with_reducible repeat (first | apply Kd.R_alloc | apply Kd.R_drewN | apply Kd.R_drew)); exact HO_7.out⟩, ⟨by (with_reducible repeat (first | apply Kd.R_alloc | apply Kd.R_drewN | apply Kd.R_drew)); exact HO_110000.out⟩, ⟨by (with_reducible repeat (first | refine blk_drewN ?_ _ | refine blk_drew ?_ | refine blk_alloc ?_ _)); exact BK109.out⟩, ⟨by repeat (first | (with_reducible first | exact HB.out | apply below_alloc | apply pw_below_drewN | apply below_drew1 | refine below_set ?_ GE109.out | refine below_set ?_ GE117.out) | exact HB.out)⟩⟩
                                  · rw [if_neg c138] at H; exact absurd (Option.some.inj H) (by rw [HRT.out]; decide)
                              · replace c133 := Bool.eq_false_iff.mpr c133
                                subst c133
                                have H1 : (some false) = some r := by rw [if_neg (show ¬ (false = true) by decide)] at H; exact H
                                exact absurd (Option.some.inj H1) (by rw [HRT.out]; decide)
                            · rw [if_neg c132] at H
                              have c132b0 : (((rd_T35 t106 x10_1).f3) == 0) = false := beq_eq_false_iff_ne.mpr c132
                              have c132b1 : (((rd_T35 t106 x10_1).f3) != 0) = true := bne_iff_ne.mpr c132
                              obtain rfl := Option.some.inj H
                              obtain ⟨Ao148, co148, eo148⟩ := Kd.R_slice HO_7.out
                              subst eo148
                              have hnb149 := NB117_109.out
                              have hnc149 := NB109_117.out
                              have hcz150_0 : wr.cell? ⟨gb117, 0, none⟩ = some (.int .i64 ((rd_T35 t106 x10_1).f0)) := (blk_cell BK117.out 0).trans rfl
                              have hcz150_1 : wr.cell? ⟨gb117, 1, none⟩ = some (.int .i64 ((rd_T35 t106 x10_1).f1)) := (blk_cell BK117.out 1).trans rfl
                              have hcz150_2 : wr.cell? ⟨gb117, 2, none⟩ = some (.int .i64 ((rd_T35 t106 x10_1).f2)) := (blk_cell BK117.out 2).trans rfl
                              have hcz150_3 : wr.cell? ⟨gb117, 3, none⟩ = some (.int .i64 ((rd_T35 t106 x10_1).f3)) := (blk_cell BK117.out 3).trans rfl
                              have hfz150_0 := blk_frozen BK117.out 0
                              have hfz150_1 := blk_frozen BK117.out 1
                              have hfz150_2 := blk_frozen BK117.out 2
                              have hfz150_3 := blk_frozen BK117.out 3
                              go_wp2
                              repeat (go_quiet (fail); try go_wp2)
                              go_ret
                              exact ⟨by first | rfl | (simp [errW_none, errW_some] <;> rfl) | (simp [*, errW_none, errW_some] <;> rfl), by repeat (first | (with_reducible first | exact HB.out | apply below_alloc | apply pw_below_drewN | apply below_drew1 | refine below_set ?_ GE109.out | refine below_set ?_ GE117.out) | exact HB.out)⟩
                          · rw [if_neg c131] at H
                            have c131b0 : (((rd_T35 t106 x10_1).f2) == 0) = false := beq_eq_false_iff_ne.mpr c131
                            have c131b1 : (((rd_T35 t106 x10_1).f2) != 0) = true := bne_iff_ne.mpr c131
                            obtain rfl := Option.some.inj H
                            obtain ⟨Ao151, co151, eo151⟩ := Kd.R_slice HO_7.out
                            subst eo151
                            have hnb152 := NB117_109.out
                            have hnc152 := NB109_117.out
                            have hcz153_0 : wr.cell? ⟨gb117, 0, none⟩ = some (.int .i64 ((rd_T35 t106 x10_1).f0)) := (blk_cell BK117.out 0).trans rfl
                            have hcz153_1 : wr.cell? ⟨gb117, 1, none⟩ = some (.int .i64 ((rd_T35 t106 x10_1).f1)) := (blk_cell BK117.out 1).trans rfl
                            have hcz153_2 : wr.cell? ⟨gb117, 2, none⟩ = some (.int .i64 ((rd_T35 t106 x10_1).f2)) := (blk_cell BK117.out 2).trans rfl
                            have hcz153_3 : wr.cell? ⟨gb117, 3, none⟩ = some (.int .i64 ((rd_T35 t106 x10_1).f3)) := (blk_cell BK117.out 3).trans rfl
                            have hfz153_0 := blk_frozen BK117.out 0
                            have hfz153_1 := blk_frozen BK117.out 1
                            have hfz153_2 := blk_frozen BK117.out 2
                            have hfz153_3 := blk_frozen BK117.out 3
                            go_wp2
                            repeat (go_quiet (fail); try go_wp2)
                            go_ret
                            exact ⟨by first | rfl | (simp [errW_none, errW_some] <;> rfl) | (simp [*, errW_none, errW_some] <;> rfl), by repeat (first | (with_reducible first | exact HB.out | apply below_alloc | apply pw_below_drewN | apply below_drew1 | refine below_set ?_ GE109.out | refine below_set ?_ GE117.out) | exact HB.out)⟩
                    · rw [if_neg c36] at H
                      have c36b0 : (((rd_T35 t106 x10_1).f0) == 21) = false := beq_eq_false_iff_ne.mpr c36
                      have c36b1 : (((rd_T35 t106 x10_1).f0) != 21) = true := bne_iff_ne.mpr c36
                      by_cases c154 : x10_1 > 0
                      · rw [if_pos c154] at H
                        have c154b0 : decide (0 < x10_1) = true := decide_eq_true c154
                        clear c154
                        obtain ⟨ji155, hji155⟩ : ∃ j_ : Int, (wrap64 (x10_1 - 1)) = j_ := ⟨_, rfl⟩
                        replace H : (if 0 ≤ (ji155) then (if (ji155) < (t106.length : Int) then (if ((rd_T35 t106 x10_1).f1) < ((rd_T35 t106 (ji155)).f1) then (some false) else (if ((rd_T35 t106 x10_1).f2) = 0 then (if ((rd_T35 t106 x10_1).f3) = 0 then (if x12_2 = true then (if ((rd_T35 t106 x10_1).f0) = 20 then (proofmarklaw02_SynPlaces.l0 k2 t101 t102 t106 t110 (wrap64 (x10_1 + 1))) else (if ((rd_T35 t106 x10_1).f0) = 2 then (proofmarklaw02_SynPlaces.l0 k2 t101 t102 t106 t110 (wrap64 (x10_1 + 1))) else (some false))) else (some false)) else (some false)) else (some false))) else (none)) else (none)) = some r := by first | (rw [hji155] at H; exact H) | (simp only [hji155] at H ⊢; exact H)
                        have hji155w : (IntKind.i64.wrap (x10_1 - 1)) = ji155 := (i64_w _).trans hji155
                        by_cases c156 : 0 ≤ (ji155)
                        · rw [if_pos c156] at H
                          have c156b0 : decide (0 ≤ (ji155)) = true := decide_eq_true c156
                          clear c156
                          by_cases c157 : (ji155) < (t106.length : Int)
                          · rw [if_pos c157] at H
                            have c157b0 : decide ((ji155) < (t106.length : Int)) = true := decide_eq_true c157
                            clear c157
                            by_cases c158 : ((rd_T35 t106 x10_1).f1) < ((rd_T35 t106 (ji155)).f1)
                            · rw [if_pos c158] at H; exact absurd (Option.some.inj H) (by rw [HRT.out]; decide)
                            · rw [if_neg c158] at H
                              have c158b0 : decide (((rd_T35 t106 x10_1).f1) < ((rd_T35 t106 (ji155)).f1)) = false := decide_eq_false c158
                              clear c158
                              by_cases c162 : ((rd_T35 t106 x10_1).f2) = 0
                              · rw [if_pos c162] at H
                                have c162b0 : (((rd_T35 t106 x10_1).f2) == 0) = true := beq_iff_eq.mpr c162
                                have c162b1 : (((rd_T35 t106 x10_1).f2) != 0) = false := bne_eq_false_iff_eq.mpr c162
                                clear c162
                                by_cases c163 : ((rd_T35 t106 x10_1).f3) = 0
                                · rw [if_pos c163] at H
                                  have c163b0 : (((rd_T35 t106 x10_1).f3) == 0) = true := beq_iff_eq.mpr c163
                                  have c163b1 : (((rd_T35 t106 x10_1).f3) != 0) = false := bne_eq_false_iff_eq.mpr c163
                                  clear c163
                                  by_cases c164 : x12_2 = true
                                  · subst c164
                                    have H1 : (if ((rd_T35 t106 x10_1).f0) = 20 then (proofmarklaw02_SynPlaces.l0 k2 t101 t102 t106 t110 (wrap64 (x10_1 + 1))) else (if ((rd_T35 t106 x10_1).f0) = 2 then (proofmarklaw02_SynPlaces.l0 k2 t101 t102 t106 t110 (wrap64 (x10_1 + 1))) else (some false))) = some r := by rw [if_pos rfl] at H; exact H
                                    clear H
                                    have H := H1
                                    clear H1
                                    by_cases c165 : ((rd_T35 t106 x10_1).f0) = 20
                                    · rw [if_pos c165] at H
                                      have c165b0 : (((rd_T35 t106 x10_1).f0) == 20) = true := beq_iff_eq.mpr c165
                                      have c165b1 : (((rd_T35 t106 x10_1).f0) != 20) = false := bne_eq_false_iff_eq.mpr c165
                                      clear c165
                                      have H' := Aside0.mk H
                                      clear H
                                      obtain ⟨Ao166, co166, eo166⟩ := Kd.R_slice HO_7.out
                                      subst eo166
                                      have hnb167 := NB117_109.out
                                      have hnc167 := NB109_117.out
                                      have hcz168_0 : wr.cell? ⟨gb117, 0, none⟩ = some (.int .i64 ((rd_T35 t106 x10_1).f0)) := (blk_cell BK117.out 0).trans rfl
                                      have hcz168_1 : wr.cell? ⟨gb117, 1, none⟩ = some (.int .i64 ((rd_T35 t106 x10_1).f1)) := (blk_cell BK117.out 1).trans rfl
                                      have hcz168_2 : wr.cell? ⟨gb117, 2, none⟩ = some (.int .i64 ((rd_T35 t106 x10_1).f2)) := (blk_cell BK117.out 2).trans rfl
                                      have hcz168_3 : wr.cell? ⟨gb117, 3, none⟩ = some (.int .i64 ((rd_T35 t106 x10_1).f3)) := (blk_cell BK117.out 3).trans rfl
                                      have hfz168_0 := blk_frozen BK117.out 0
                                      have hfz168_1 := blk_frozen BK117.out 1
                                      have hfz168_2 := blk_frozen BK117.out 2
                                      have hfz168_3 := blk_frozen BK117.out 3
                                      have p121 : 0 ≤ ((ji155) : Int) := of_decide_eq_true (by first | (with_reducible assumption) | assumption)
                                      have q121 : (ji155) < (t106.length : Int) := of_decide_eq_true (by first | (with_reducible assumption) | assumption)
                                      obtain ⟨ad121, e121, hx121_0, hx121_1, hx121_2, hx121_3⟩ := at_T35 (Kd.R_reads' HO_6.out).2.2 (ji155) p121 q121
                                      obtain rfl : ad116 = ad121 := (by injection e121)
                                      replace p121 := eq_true p121
                                      replace q121 := eq_true q121
                                      go_wp2
                                      repeat (go_quiet (fail); try go_wp2)
                                      go_roundg k2
                                      case measure => have := HK1.out; have := HK2.out; omega
                                      case rel => exact ⟨(wrap64 (x10_1 + 1)), (by first | rfl | (simp; done) | (simp [*]; done)), H', ⟨by have := HK1.out; have := HK2.out; omega⟩, ⟨by (with_reducible repeat (first | apply Kd.R_alloc | apply Kd.R_drewN | apply Kd.R_drew)); exact Kd.R_mono HO_6.out (fun _ hk => trivial)⟩, ⟨by (with_reducible repeat (first | apply Kd.R_alloc | apply Kd.R_drewN | apply Kd.R_drew)); exact HO_7.out⟩, ⟨by (with_reducible repeat (first | apply Kd.R_alloc | apply Kd.R_drewN | apply Kd.R_drew)); exact HO_110000.out⟩, ⟨by (with_reducible repeat (first | refine blk_drewN ?_ _ | refine blk_drew ?_ | refine blk_alloc ?_ _)); exact BK109.out⟩, ⟨by repeat (first | (with_reducible first | exact HB.out | apply below_alloc | apply pw_below_drewN | apply below_drew1 | refine below_set ?_ GE109.out | refine below_set ?_ GE117.out) | exact HB.out)⟩⟩
                                    · rw [if_neg c165] at H
                                      have c165b0 : (((rd_T35 t106 x10_1).f0) == 20) = false := beq_eq_false_iff_ne.mpr c165
                                      have c165b1 : (((rd_T35 t106 x10_1).f0) != 20) = true := bne_iff_ne.mpr c165
                                      by_cases c169 : ((rd_T35 t106 x10_1).f0) = 2
                                      · rw [if_pos c169] at H
                                        have c169b0 : (((rd_T35 t106 x10_1).f0) == 2) = true := beq_iff_eq.mpr c169
                                        have c169b1 : (((rd_T35 t106 x10_1).f0) != 2) = false := bne_eq_false_iff_eq.mpr c169
                                        clear c169
                                        have H' := Aside0.mk H
                                        clear H
                                        obtain ⟨Ao170, co170, eo170⟩ := Kd.R_slice HO_7.out
                                        subst eo170
                                        have hnb171 := NB117_109.out
                                        have hnc171 := NB109_117.out
                                        have hcz172_0 : wr.cell? ⟨gb117, 0, none⟩ = some (.int .i64 ((rd_T35 t106 x10_1).f0)) := (blk_cell BK117.out 0).trans rfl
                                        have hcz172_1 : wr.cell? ⟨gb117, 1, none⟩ = some (.int .i64 ((rd_T35 t106 x10_1).f1)) := (blk_cell BK117.out 1).trans rfl
                                        have hcz172_2 : wr.cell? ⟨gb117, 2, none⟩ = some (.int .i64 ((rd_T35 t106 x10_1).f2)) := (blk_cell BK117.out 2).trans rfl
                                        have hcz172_3 : wr.cell? ⟨gb117, 3, none⟩ = some (.int .i64 ((rd_T35 t106 x10_1).f3)) := (blk_cell BK117.out 3).trans rfl
                                        have hfz172_0 := blk_frozen BK117.out 0
                                        have hfz172_1 := blk_frozen BK117.out 1
                                        have hfz172_2 := blk_frozen BK117.out 2
                                        have hfz172_3 := blk_frozen BK117.out 3
                                        have p121 : 0 ≤ ((ji155) : Int) := of_decide_eq_true (by first | (with_reducible assumption) | assumption)
                                        have q121 : (ji155) < (t106.length : Int) := of_decide_eq_true (by first | (with_reducible assumption) | assumption)
                                        obtain ⟨ad121, e121, hx121_0, hx121_1, hx121_2, hx121_3⟩ := at_T35 (Kd.R_reads' HO_6.out).2.2 (ji155) p121 q121
                                        obtain rfl : ad116 = ad121 := (by injection e121)
                                        replace p121 := eq_true p121
                                        replace q121 := eq_true q121
                                        go_wp2
                                        repeat (go_quiet (fail); try go_wp2)
                                        go_roundg k2
                                        case measure => have := HK1.out; have := HK2.out; omega
                                        case rel => exact ⟨(wrap64 (x10_1 + 1)), (by first | rfl | (simp; done) | (simp [*]; done)), H', ⟨by have := HK1.out; have := HK2.out; omega⟩, ⟨by (with_reducible repeat (first | apply Kd.R_alloc | apply Kd.R_drewN | apply Kd.R_drew)); exact Kd.R_mono HO_6.out (fun _ hk => trivial)⟩, ⟨by (with_reducible repeat (first | apply Kd.R_alloc | apply Kd.R_drewN | apply Kd.R_drew)); exact HO_7.out⟩, ⟨by (with_reducible repeat (first | apply Kd.R_alloc | apply Kd.R_drewN | apply Kd.R_drew)); exact HO_110000.out⟩, ⟨by (with_reducible repeat (first | refine blk_drewN ?_ _ | refine blk_drew ?_ | refine blk_alloc ?_ _)); exact BK109.out⟩, ⟨by repeat (first | (with_reducible first | exact HB.out | apply below_alloc | apply pw_below_drewN | apply below_drew1 | refine below_set ?_ GE109.out | refine below_set ?_ GE117.out) | exact HB.out)⟩⟩
                                      · rw [if_neg c169] at H; exact absurd (Option.some.inj H) (by rw [HRT.out]; decide)
                                  · replace c164 := Bool.eq_false_iff.mpr c164
                                    subst c164
                                    have H1 : (some false) = some r := by rw [if_neg (show ¬ (false = true) by decide)] at H; exact H
                                    exact absurd (Option.some.inj H1) (by rw [HRT.out]; decide)
                                · rw [if_neg c163] at H; exact absurd (Option.some.inj H) (by rw [HRT.out]; decide)
                              · rw [if_neg c162] at H; exact absurd (Option.some.inj H) (by rw [HRT.out]; decide)
                          · rw [if_neg c157] at H
                            exact absurd H (by simp)
                        · rw [if_neg c156] at H
                          exact absurd H (by simp)
                      · rw [if_neg c154] at H
                        have c154b0 : decide (0 < x10_1) = false := decide_eq_false c154
                        clear c154
                        by_cases c185 : ((rd_T35 t106 x10_1).f2) = 0
                        · rw [if_pos c185] at H
                          have c185b0 : (((rd_T35 t106 x10_1).f2) == 0) = true := beq_iff_eq.mpr c185
                          have c185b1 : (((rd_T35 t106 x10_1).f2) != 0) = false := bne_eq_false_iff_eq.mpr c185
                          clear c185
                          by_cases c186 : ((rd_T35 t106 x10_1).f3) = 0
                          · rw [if_pos c186] at H
                            have c186b0 : (((rd_T35 t106 x10_1).f3) == 0) = true := beq_iff_eq.mpr c186
                            have c186b1 : (((rd_T35 t106 x10_1).f3) != 0) = false := bne_eq_false_iff_eq.mpr c186
                            clear c186
                            by_cases c187 : x12_2 = true
                            · subst c187
                              have H1 : (if ((rd_T35 t106 x10_1).f0) = 20 then (proofmarklaw02_SynPlaces.l0 k2 t101 t102 t106 t110 (wrap64 (x10_1 + 1))) else (if ((rd_T35 t106 x10_1).f0) = 2 then (proofmarklaw02_SynPlaces.l0 k2 t101 t102 t106 t110 (wrap64 (x10_1 + 1))) else (some false))) = some r := by rw [if_pos rfl] at H; exact H
                              clear H
                              have H := H1
                              clear H1
                              by_cases c188 : ((rd_T35 t106 x10_1).f0) = 20
                              · rw [if_pos c188] at H
                                have c188b0 : (((rd_T35 t106 x10_1).f0) == 20) = true := beq_iff_eq.mpr c188
                                have c188b1 : (((rd_T35 t106 x10_1).f0) != 20) = false := bne_eq_false_iff_eq.mpr c188
                                clear c188
                                have H' := Aside0.mk H
                                clear H
                                obtain ⟨Ao189, co189, eo189⟩ := Kd.R_slice HO_7.out
                                subst eo189
                                have hnb190 := NB117_109.out
                                have hnc190 := NB109_117.out
                                have hcz191_0 : wr.cell? ⟨gb117, 0, none⟩ = some (.int .i64 ((rd_T35 t106 x10_1).f0)) := (blk_cell BK117.out 0).trans rfl
                                have hcz191_1 : wr.cell? ⟨gb117, 1, none⟩ = some (.int .i64 ((rd_T35 t106 x10_1).f1)) := (blk_cell BK117.out 1).trans rfl
                                have hcz191_2 : wr.cell? ⟨gb117, 2, none⟩ = some (.int .i64 ((rd_T35 t106 x10_1).f2)) := (blk_cell BK117.out 2).trans rfl
                                have hcz191_3 : wr.cell? ⟨gb117, 3, none⟩ = some (.int .i64 ((rd_T35 t106 x10_1).f3)) := (blk_cell BK117.out 3).trans rfl
                                have hfz191_0 := blk_frozen BK117.out 0
                                have hfz191_1 := blk_frozen BK117.out 1
                                have hfz191_2 := blk_frozen BK117.out 2
                                have hfz191_3 := blk_frozen BK117.out 3
                                go_wp2
                                repeat (go_quiet (fail); try go_wp2)
                                go_roundg k2
                                case measure => have := HK1.out; have := HK2.out; omega
                                case rel => exact ⟨(wrap64 (x10_1 + 1)), (by first | rfl | (simp; done) | (simp [*]; done)), H', ⟨by have := HK1.out; have := HK2.out; omega⟩, ⟨by (with_reducible repeat (first | apply Kd.R_alloc | apply Kd.R_drewN | apply Kd.R_drew)); exact Kd.R_mono HO_6.out (fun _ hk => trivial)⟩, ⟨by (with_reducible repeat (first | apply Kd.R_alloc | apply Kd.R_drewN | apply Kd.R_drew)); exact HO_7.out⟩, ⟨by (with_reducible repeat (first | apply Kd.R_alloc | apply Kd.R_drewN | apply Kd.R_drew)); exact HO_110000.out⟩, ⟨by (with_reducible repeat (first | refine blk_drewN ?_ _ | refine blk_drew ?_ | refine blk_alloc ?_ _)); exact BK109.out⟩, ⟨by repeat (first | (with_reducible first | exact HB.out | apply below_alloc | apply pw_below_drewN | apply below_drew1 | refine below_set ?_ GE109.out | refine below_set ?_ GE117.out) | exact HB.out)⟩⟩
                              · rw [if_neg c188] at H
                                have c188b0 : (((rd_T35 t106 x10_1).f0) == 20) = false := beq_eq_false_iff_ne.mpr c188
                                have c188b1 : (((rd_T35 t106 x10_1).f0) != 20) = true := bne_iff_ne.mpr c188
                                by_cases c192 : ((rd_T35 t106 x10_1).f0) = 2
                                · rw [if_pos c192] at H
                                  have c192b0 : (((rd_T35 t106 x10_1).f0) == 2) = true := beq_iff_eq.mpr c192
                                  have c192b1 : (((rd_T35 t106 x10_1).f0) != 2) = false := bne_eq_false_iff_eq.mpr c192
                                  clear c192
                                  have H' := Aside0.mk H
                                  clear H
                                  obtain ⟨Ao193, co193, eo193⟩ := Kd.R_slice HO_7.out
                                  subst eo193
                                  have hnb194 := NB117_109.out
                                  have hnc194 := NB109_117.out
                                  have hcz195_0 : wr.cell? ⟨gb117, 0, none⟩ = some (.int .i64 ((rd_T35 t106 x10_1).f0)) := (blk_cell BK117.out 0).trans rfl
                                  have hcz195_1 : wr.cell? ⟨gb117, 1, none⟩ = some (.int .i64 ((rd_T35 t106 x10_1).f1)) := (blk_cell BK117.out 1).trans rfl
                                  have hcz195_2 : wr.cell? ⟨gb117, 2, none⟩ = some (.int .i64 ((rd_T35 t106 x10_1).f2)) := (blk_cell BK117.out 2).trans rfl
                                  have hcz195_3 : wr.cell? ⟨gb117, 3, none⟩ = some (.int .i64 ((rd_T35 t106 x10_1).f3)) := (blk_cell BK117.out 3).trans rfl
                                  have hfz195_0 := blk_frozen BK117.out 0
                                  have hfz195_1 := blk_frozen BK117.out 1
                                  have hfz195_2 := blk_frozen BK117.out 2
                                  have hfz195_3 := blk_frozen BK117.out 3
                                  go_wp2
                                  repeat (go_quiet (fail); try go_wp2)
                                  go_roundg k2
                                  case measure => have := HK1.out; have := HK2.out; omega
                                  case rel => exact ⟨(wrap64 (x10_1 + 1)), (by first | rfl | (simp; done) | (simp [*]; done)), H', ⟨by have := HK1.out; have := HK2.out; omega⟩, ⟨by (with_reducible repeat (first | apply Kd.R_alloc | apply Kd.R_drewN | apply Kd.R_drew)); exact Kd.R_mono HO_6.out (fun _ hk => trivial)⟩, ⟨by (with_reducible repeat (first | apply Kd.R_alloc | apply Kd.R_drewN | apply Kd.R_drew)); exact HO_7.out⟩, ⟨by (with_reducible repeat (first | apply Kd.R_alloc | apply Kd.R_drewN | apply Kd.R_drew)); exact HO_110000.out⟩, ⟨by (with_reducible repeat (first | refine blk_drewN ?_ _ | refine blk_drew ?_ | refine blk_alloc ?_ _)); exact BK109.out⟩, ⟨by repeat (first | (with_reducible first | exact HB.out | apply below_alloc | apply pw_below_drewN | apply below_drew1 | refine below_set ?_ GE109.out | refine below_set ?_ GE117.out) | exact HB.out)⟩⟩
                                · rw [if_neg c192] at H; exact absurd (Option.some.inj H) (by rw [HRT.out]; decide)
                            · replace c187 := Bool.eq_false_iff.mpr c187
                              subst c187
                              have H1 : (some false) = some r := by rw [if_neg (show ¬ (false = true) by decide)] at H; exact H
                              exact absurd (Option.some.inj H1) (by rw [HRT.out]; decide)
                          · rw [if_neg c186] at H
                            have c186b0 : (((rd_T35 t106 x10_1).f3) == 0) = false := beq_eq_false_iff_ne.mpr c186
                            have c186b1 : (((rd_T35 t106 x10_1).f3) != 0) = true := bne_iff_ne.mpr c186
                            obtain rfl := Option.some.inj H
                            obtain ⟨Ao202, co202, eo202⟩ := Kd.R_slice HO_7.out
                            subst eo202
                            have hnb203 := NB117_109.out
                            have hnc203 := NB109_117.out
                            have hcz204_0 : wr.cell? ⟨gb117, 0, none⟩ = some (.int .i64 ((rd_T35 t106 x10_1).f0)) := (blk_cell BK117.out 0).trans rfl
                            have hcz204_1 : wr.cell? ⟨gb117, 1, none⟩ = some (.int .i64 ((rd_T35 t106 x10_1).f1)) := (blk_cell BK117.out 1).trans rfl
                            have hcz204_2 : wr.cell? ⟨gb117, 2, none⟩ = some (.int .i64 ((rd_T35 t106 x10_1).f2)) := (blk_cell BK117.out 2).trans rfl
                            have hcz204_3 : wr.cell? ⟨gb117, 3, none⟩ = some (.int .i64 ((rd_T35 t106 x10_1).f3)) := (blk_cell BK117.out 3).trans rfl
                            have hfz204_0 := blk_frozen BK117.out 0
                            have hfz204_1 := blk_frozen BK117.out 1
                            have hfz204_2 := blk_frozen BK117.out 2
                            have hfz204_3 := blk_frozen BK117.out 3
                            go_wp2
                            repeat (go_quiet (fail); try go_wp2)
                            go_ret
                            exact ⟨by first | rfl | (simp [errW_none, errW_some] <;> rfl) | (simp [*, errW_none, errW_some] <;> rfl), by repeat (first | (with_reducible first | exact HB.out | apply below_alloc | apply pw_below_drewN | apply below_drew1 | refine below_set ?_ GE109.out | refine below_set ?_ GE117.out) | exact HB.out)⟩
                        · rw [if_neg c185] at H
                          have c185b0 : (((rd_T35 t106 x10_1).f2) == 0) = false := beq_eq_false_iff_ne.mpr c185
                          have c185b1 : (((rd_T35 t106 x10_1).f2) != 0) = true := bne_iff_ne.mpr c185
                          obtain rfl := Option.some.inj H
                          obtain ⟨Ao205, co205, eo205⟩ := Kd.R_slice HO_7.out
                          subst eo205
                          have hnb206 := NB117_109.out
                          have hnc206 := NB109_117.out
                          have hcz207_0 : wr.cell? ⟨gb117, 0, none⟩ = some (.int .i64 ((rd_T35 t106 x10_1).f0)) := (blk_cell BK117.out 0).trans rfl
                          have hcz207_1 : wr.cell? ⟨gb117, 1, none⟩ = some (.int .i64 ((rd_T35 t106 x10_1).f1)) := (blk_cell BK117.out 1).trans rfl
                          have hcz207_2 : wr.cell? ⟨gb117, 2, none⟩ = some (.int .i64 ((rd_T35 t106 x10_1).f2)) := (blk_cell BK117.out 2).trans rfl
                          have hcz207_3 : wr.cell? ⟨gb117, 3, none⟩ = some (.int .i64 ((rd_T35 t106 x10_1).f3)) := (blk_cell BK117.out 3).trans rfl
                          have hfz207_0 := blk_frozen BK117.out 0
                          have hfz207_1 := blk_frozen BK117.out 1
                          have hfz207_2 := blk_frozen BK117.out 2
                          have hfz207_3 := blk_frozen BK117.out 3
                          go_wp2
                          repeat (go_quiet (fail); try go_wp2)
                          go_ret
                          exact ⟨by first | rfl | (simp [errW_none, errW_some] <;> rfl) | (simp [*, errW_none, errW_some] <;> rfl), by repeat (first | (with_reducible first | exact HB.out | apply below_alloc | apply pw_below_drewN | apply below_drew1 | refine below_set ?_ GE109.out | refine below_set ?_ GE117.out) | exact HB.out)⟩
            · rw [if_neg c25] at H
              exact absurd H (by simp)
          · rw [if_neg c24] at H
            have c24b0 : decide (x10_1 < (t106.length : Int)) = false := decide_eq_false c24
            clear c24
            obtain rfl := Option.some.inj H
            go_wp2
            repeat (go_quiet (fail); try go_wp2)
            go_ret
            exact ⟨by first | rfl | (simp [errW_none, errW_some] <;> rfl) | (simp [*, errW_none, errW_some] <;> rfl), by repeat (first | (with_reducible first | exact HB.out | apply below_alloc | apply pw_below_drewN | apply below_drew1 | refine below_set ?_ GE109.out) | exact HB.out)⟩
  · rw [if_neg c6] at H
    have c6b0 : (t111 == 0) = false := beq_eq_false_iff_ne.mpr c6
    have c6b1 : (t111 != 0) = true := bne_iff_ne.mpr c6
    by_cases c208 : t101 = true
    · subst c208
      have H1 : (if (t106.length : Int) = 1 then (if 0 < (t106.length : Int) then (some (((rd_T35 t106 0).f0) == t111 && (((rd_T35 t106 0).f1) == t112 && (((rd_T35 t106 0).f2) == 0 && (((rd_T35 t106 0).f3) == 0))))) else (none)) else (some false)) = some r := by rw [if_pos rfl] at H; exact H
      clear H
      have H := H1
      clear H1
      by_cases c209 : (t106.length : Int) = 1
      · rw [if_pos c209] at H
        have c209b0 : ((t106.length : Int) == 1) = true := beq_iff_eq.mpr c209
        have c209b1 : ((t106.length : Int) != 1) = false := bne_eq_false_iff_eq.mpr c209
        clear c209
        by_cases c210 : 0 < (t106.length : Int)
        · rw [if_pos c210] at H
          have c210b0 : decide (0 < (t106.length : Int)) = true := decide_eq_true c210
          have c210b1 : decide (0 < t106.length) = true := decide_eq_true (by omega)
          clear c210
          obtain rfl := Option.some.inj H
          have hz := HRT.out
          simp only [Bool.and_eq_true, beq_iff_eq] at hz
          obtain ⟨z0, z1, z2, z3⟩ := hz
          go_enter Tryd.func3, Tryd.ntmps3
          go_wp2_with (first | (go_at_call 9; (with_reducible refine (proofmarklaw02_head.calls true _ (by first | exact HG.out | (refine tab_below HG.out ?_; repeat (first | (with_reducible first | exact HB.out | apply below_alloc | apply pw_below_drewN | apply below_drew1 | refine below_set ?_ GE109.out | refine below_set ?_ GE117.out) | exact HB.out)) | (refine tab_drawn HG.out ?_; repeat (first | exact Drawn0.refl _ | apply drawn_drewN | apply drawn_drew))) A2.out).mono ?_); rintro e w211 ⟨rfl, hb⟩; have n0_ := Aside0.mk (below_step (by repeat (first | (with_reducible first | exact HB.out | apply below_alloc | apply pw_below_drewN | apply below_drew1) | exact HB.out)) hb); clear HB; have HB := n0_; clear n0_; (try clear hb); (try clear hb2); (try clear hk); (try clear hi)) | (go_at_call 10; (with_reducible refine (proofmarklaw02_few.calls a0 t102 _ A3.out).mono ?_); rintro e w212 ⟨rfl, hb⟩; have n0_ := Aside0.mk (below_step (by repeat (first | (with_reducible first | exact HB.out | apply below_alloc | apply pw_below_drewN | apply below_drew1) | exact HB.out)) hb); clear HB; have HB := n0_; clear n0_; (try clear hb); (try clear hb2); (try clear hk); (try clear hi)) | (go_at_call 11; (with_reducible refine (syn_Parse.calls t102 t103 t106 _ (by first | exact HG.out | (refine tab_below HG.out ?_; repeat (first | (with_reducible first | exact HB.out | apply below_alloc | apply pw_below_drewN | apply below_drew1 | refine below_set ?_ GE109.out | refine below_set ?_ GE117.out) | exact HB.out)) | (refine tab_drawn HG.out ?_; repeat (first | exact Drawn0.refl _ | apply drawn_drewN | apply drawn_drew))) A4.out).mono ?_); rintro e w213 ⟨v104, v107, rfl, ho0, ho1, hb⟩; have n0_ := Aside0.mk (Kd.R_lower ho0 (below_size (by repeat (first | (with_reducible first | exact HB.out | apply below_alloc | apply pw_below_drewN | apply below_drew1) | exact HB.out)))); have n1_ := Aside0.mk (Kd.R_lower ho1 (below_size (by repeat (first | (with_reducible first | exact HB.out | apply below_alloc | apply pw_below_drewN | apply below_drew1) | exact HB.out)))); have n2_ := Aside0.mk (below_step (by repeat (first | (with_reducible first | exact HB.out | apply below_alloc | apply pw_below_drewN | apply below_drew1) | exact HB.out)) hb); clear HB; have HO105 := n0_; have HO108 := n1_; have HB := n2_; clear n0_ n1_ n2_; (try clear hb); (try clear hb2); (try clear hk); (try clear hi); (try clear ho0); (try clear ho1)) | ((with_reducible refine gate_dst (N := 5) rfl ?_); (try (refine gate_guard (by rfl) ?_; dsimp only)); refine box_event ?hg (N := 5) ?hd (cs := #[.slice none 0 0]) (t := 26) ?hr ?_; (case hd => rfl); (case hg => rfl); (case hr => first | (go_simp; done) | (go_simp; rfl)); intro gb109 hg w214 hbox hb; have n0_ := Aside0.mk (Kd.R_below (by (with_reducible repeat (first | apply Kd.R_alloc | apply Kd.R_drewN | apply Kd.R_drew)); exact HO105.out) hb); have n1_ := Aside0.mk (Kd.R_below (by (with_reducible repeat (first | apply Kd.R_alloc | apply Kd.R_drewN | apply Kd.R_drew)); exact HO108.out) hb); have n2_ := Aside0.mk (below_step (by repeat (first | (with_reducible first | exact HB.out | apply below_alloc | apply pw_below_drewN | apply below_drew1) | exact HB.out)) hb); have n3_ := Aside0.mk (hbox); have n4_ := Aside0.mk ((by rw [hg]; exact (below_size (by repeat (first | (with_reducible first | exact HB.out | apply below_alloc | apply pw_below_drewN | apply below_drew1) | exact HB.out))) : w.heap.size ≤ gb109)); have n5_ := Aside0.mk ((by rw [hg]; exact (below_size (by repeat (first | (with_reducible first | exact HB.out | apply below_alloc | apply pw_below_drewN | apply below_drew1) | exact HB.out))) : w.heap.size ≤ gb109)); clear HO105; clear HO108; clear HB; have HO105 := n0_; have HO108 := n1_; have HB := n2_; have BK109 := n3_; have GW109 := n4_; have GE109 := n5_; clear n0_ n1_ n2_ n3_ n4_ n5_; clear hb hbox hg; obtain ⟨Ao215, co215, eo215⟩ := Kd.R_slice HO105.out; subst eo215; have hcz216_0 : w214.cell? ⟨gb109, 0, none⟩ = some (.slice none 0 0) := (blk_cell BK109.out 0).trans rfl; have hfz216_0 := blk_frozen BK109.out 0) | (go_at_call 12; (with_reducible refine (lex_Lex.calls t102 t110 t111 t112 _ (by first | exact HG.out | (refine tab_below HG.out ?_; repeat (first | (with_reducible first | exact HB.out | apply below_alloc | apply pw_below_drewN | apply below_drew1 | refine below_set ?_ GE109.out | refine below_set ?_ GE117.out) | exact HB.out)) | (refine tab_drawn HG.out ?_; repeat (first | exact Drawn0.refl _ | apply drawn_drewN | apply drawn_drew))) A5.out).mono ?_); rintro e w217 ⟨v113, rfl, ho0, hb⟩; have n0_ := Aside0.mk (Kd.R_below (by (with_reducible repeat (first | apply Kd.R_alloc | apply Kd.R_drewN | apply Kd.R_drew)); exact (Kd.R_mono (Kd.R_far (p := ⟨gb109, 0, none⟩) (Kd.R_types HO105.out BK109.out (by decide)) (fun _ hk => hk.2) (.slice Ao215 t103.length co215)) (fun _ h_ => h_.1))) hb); have n1_ := Aside0.mk (Kd.R_below (by (with_reducible repeat (first | apply Kd.R_alloc | apply Kd.R_drewN | apply Kd.R_drew)); exact (Kd.R_mono (Kd.R_far (p := ⟨gb109, 0, none⟩) (Kd.R_types HO108.out BK109.out (by decide)) (fun _ hk => hk.2) (.slice Ao215 t103.length co215)) (fun _ h_ => h_.1))) hb); have n2_ := Aside0.mk (Kd.R_lower ho0 (below_size (by repeat (first | (with_reducible first | exact HB.out | apply below_alloc | apply pw_below_drewN | apply below_drew1 | refine below_set ?_ GE109.out) | exact HB.out)))); have n3_ := Aside0.mk (blk_below (g := gb109) (o := .cells #[.slice Ao215 t103.length co215] 26 (0, 0)) (by (with_reducible repeat (first | refine blk_drewN ?_ _ | refine blk_drew ?_ | refine blk_alloc ?_ _)); refine blk_put (cs := #[.slice none 0 0]) ?_ 0 _ rfl; (with_reducible repeat (first | refine blk_drewN ?_ _ | refine blk_drew ?_ | refine blk_alloc ?_ _)); exact BK109.out) hb); have n4_ := Aside0.mk (below_step (by repeat (first | (with_reducible first | exact HB.out | apply below_alloc | apply pw_below_drewN | apply below_drew1 | refine below_set ?_ GE109.out) | exact HB.out)) hb); clear HO105; clear HO108; clear BK109; clear HB; have HO105 := n0_; have HO108 := n1_; have HO114 := n2_; have BK109 := n3_; have HB := n4_; clear n0_ n1_ n2_ n3_ n4_; (try clear hb); (try clear hb2); (try clear hk); (try clear hi); (try clear ho0); obtain ⟨Ao218, co218, eo218⟩ := Kd.R_slice HO108.out; subst eo218; have p115 : 0 ≤ (0 : Int) := (by omega); have q115 : 0 < (t106.length : Int) := of_decide_eq_true (by first | (with_reducible assumption) | assumption); obtain ⟨ad115, e115, hx115_0, hx115_1, hx115_2, hx115_3⟩ := at_T35 (Kd.R_reads' HO108.out).2.2 0 p115 q115; cases e115; have qi115 : (0 < t106.length) = True := eq_true (by omega); (try rw [show ((0 : Int)).toNat = 0 from rfl] at hx115_0); (try rw [show 0 * 4 = 0 from rfl] at hx115_0); (try rw [Addr.add_zero'] at hx115_0); (try rw [show ((0 : Int)).toNat = 0 from rfl] at hx115_1); (try rw [show 0 * 4 = 0 from rfl] at hx115_1); (try rw [Addr.add_zero'] at hx115_1); (try rw [show ((0 : Int)).toNat = 0 from rfl] at hx115_2); (try rw [show 0 * 4 = 0 from rfl] at hx115_2); (try rw [Addr.add_zero'] at hx115_2); (try rw [show ((0 : Int)).toNat = 0 from rfl] at hx115_3); (try rw [show 0 * 4 = 0 from rfl] at hx115_3); (try rw [Addr.add_zero'] at hx115_3); replace p115 := eq_true p115; replace q115 := eq_true q115))
          repeat (go_quiet (first | (go_at_call 9; (with_reducible refine (proofmarklaw02_head.calls true _ (by first | exact HG.out | (refine tab_below HG.out ?_; repeat (first | (with_reducible first | exact HB.out | apply below_alloc | apply pw_below_drewN | apply below_drew1 | refine below_set ?_ GE109.out | refine below_set ?_ GE117.out) | exact HB.out)) | (refine tab_drawn HG.out ?_; repeat (first | exact Drawn0.refl _ | apply drawn_drewN | apply drawn_drew))) A2.out).mono ?_); rintro e w211 ⟨rfl, hb⟩; have n0_ := Aside0.mk (below_step (by repeat (first | (with_reducible first | exact HB.out | apply below_alloc | apply pw_below_drewN | apply below_drew1) | exact HB.out)) hb); clear HB; have HB := n0_; clear n0_; (try clear hb); (try clear hb2); (try clear hk); (try clear hi)) | (go_at_call 10; (with_reducible refine (proofmarklaw02_few.calls a0 t102 _ A3.out).mono ?_); rintro e w212 ⟨rfl, hb⟩; have n0_ := Aside0.mk (below_step (by repeat (first | (with_reducible first | exact HB.out | apply below_alloc | apply pw_below_drewN | apply below_drew1) | exact HB.out)) hb); clear HB; have HB := n0_; clear n0_; (try clear hb); (try clear hb2); (try clear hk); (try clear hi)) | (go_at_call 11; (with_reducible refine (syn_Parse.calls t102 t103 t106 _ (by first | exact HG.out | (refine tab_below HG.out ?_; repeat (first | (with_reducible first | exact HB.out | apply below_alloc | apply pw_below_drewN | apply below_drew1 | refine below_set ?_ GE109.out | refine below_set ?_ GE117.out) | exact HB.out)) | (refine tab_drawn HG.out ?_; repeat (first | exact Drawn0.refl _ | apply drawn_drewN | apply drawn_drew))) A4.out).mono ?_); rintro e w213 ⟨v104, v107, rfl, ho0, ho1, hb⟩; have n0_ := Aside0.mk (Kd.R_lower ho0 (below_size (by repeat (first | (with_reducible first | exact HB.out | apply below_alloc | apply pw_below_drewN | apply below_drew1) | exact HB.out)))); have n1_ := Aside0.mk (Kd.R_lower ho1 (below_size (by repeat (first | (with_reducible first | exact HB.out | apply below_alloc | apply pw_below_drewN | apply below_drew1) | exact HB.out)))); have n2_ := Aside0.mk (below_step (by repeat (first | (with_reducible first | exact HB.out | apply below_alloc | apply pw_below_drewN | apply below_drew1) | exact HB.out)) hb); clear HB; have HO105 := n0_; have HO108 := n1_; have HB := n2_; clear n0_ n1_ n2_; (try clear hb); (try clear hb2); (try clear hk); (try clear hi); (try clear ho0); (try clear ho1)) | ((with_reducible refine gate_dst (N := 5) rfl ?_); (try (refine gate_guard (by rfl) ?_; dsimp only)); refine box_event ?hg (N := 5) ?hd (cs := #[.slice none 0 0]) (t := 26) ?hr ?_; (case hd => rfl); (case hg => rfl); (case hr => first | (go_simp; done) | (go_simp; rfl)); intro gb109 hg w214 hbox hb; have n0_ := Aside0.mk (Kd.R_below (by (with_reducible repeat (first | apply Kd.R_alloc | apply Kd.R_drewN | apply Kd.R_drew)); exact HO105.out) hb); have n1_ := Aside0.mk (Kd.R_below (by (with_reducible repeat (first | apply Kd.R_alloc | apply Kd.R_drewN | apply Kd.R_drew)); exact HO108.out) hb); have n2_ := Aside0.mk (below_step (by repeat (first | (with_reducible first | exact HB.out | apply below_alloc | apply pw_below_drewN | apply below_drew1) | exact HB.out)) hb); have n3_ := Aside0.mk (hbox); have n4_ := Aside0.mk ((by rw [hg]; exact (below_size (by repeat (first | (with_reducible first | exact HB.out | apply below_alloc | apply pw_below_drewN | apply below_drew1) | exact HB.out))) : w.heap.size ≤ gb109)); have n5_ := Aside0.mk ((by rw [hg]; exact (below_size (by repeat (first | (with_reducible first | exact HB.out | apply below_alloc | apply pw_below_drewN | apply below_drew1) | exact HB.out))) : w.heap.size ≤ gb109)); clear HO105; clear HO108; clear HB; have HO105 := n0_; have HO108 := n1_; have HB := n2_; have BK109 := n3_; have GW109 := n4_; have GE109 := n5_; clear n0_ n1_ n2_ n3_ n4_ n5_; clear hb hbox hg; obtain ⟨Ao215, co215, eo215⟩ := Kd.R_slice HO105.out; subst eo215; have hcz216_0 : w214.cell? ⟨gb109, 0, none⟩ = some (.slice none 0 0) := (blk_cell BK109.out 0).trans rfl; have hfz216_0 := blk_frozen BK109.out 0) | (go_at_call 12; (with_reducible refine (lex_Lex.calls t102 t110 t111 t112 _ (by first | exact HG.out | (refine tab_below HG.out ?_; repeat (first | (with_reducible first | exact HB.out | apply below_alloc | apply pw_below_drewN | apply below_drew1 | refine below_set ?_ GE109.out | refine below_set ?_ GE117.out) | exact HB.out)) | (refine tab_drawn HG.out ?_; repeat (first | exact Drawn0.refl _ | apply drawn_drewN | apply drawn_drew))) A5.out).mono ?_); rintro e w217 ⟨v113, rfl, ho0, hb⟩; have n0_ := Aside0.mk (Kd.R_below (by (with_reducible repeat (first | apply Kd.R_alloc | apply Kd.R_drewN | apply Kd.R_drew)); exact (Kd.R_mono (Kd.R_far (p := ⟨gb109, 0, none⟩) (Kd.R_types HO105.out BK109.out (by decide)) (fun _ hk => hk.2) (.slice Ao215 t103.length co215)) (fun _ h_ => h_.1))) hb); have n1_ := Aside0.mk (Kd.R_below (by (with_reducible repeat (first | apply Kd.R_alloc | apply Kd.R_drewN | apply Kd.R_drew)); exact (Kd.R_mono (Kd.R_far (p := ⟨gb109, 0, none⟩) (Kd.R_types HO108.out BK109.out (by decide)) (fun _ hk => hk.2) (.slice Ao215 t103.length co215)) (fun _ h_ => h_.1))) hb); have n2_ := Aside0.mk (Kd.R_lower ho0 (below_size (by repeat (first | (with_reducible first | exact HB.out | apply below_alloc | apply pw_below_drewN | apply below_drew1 | refine below_set ?_ GE109.out) | exact HB.out)))); have n3_ := Aside0.mk (blk_below (g := gb109) (o := .cells #[.slice Ao215 t103.length co215] 26 (0, 0)) (by (with_reducible repeat (first | refine blk_drewN ?_ _ | refine blk_drew ?_ | refine blk_alloc ?_ _)); refine blk_put (cs := #[.slice none 0 0]) ?_ 0 _ rfl; (with_reducible repeat (first | refine blk_drewN ?_ _ | refine blk_drew ?_ | refine blk_alloc ?_ _)); exact BK109.out) hb); have n4_ := Aside0.mk (below_step (by repeat (first | (with_reducible first | exact HB.out | apply below_alloc | apply pw_below_drewN | apply below_drew1 | refine below_set ?_ GE109.out) | exact HB.out)) hb); clear HO105; clear HO108; clear BK109; clear HB; have HO105 := n0_; have HO108 := n1_; have HO114 := n2_; have BK109 := n3_; have HB := n4_; clear n0_ n1_ n2_ n3_ n4_; (try clear hb); (try clear hb2); (try clear hk); (try clear hi); (try clear ho0); obtain ⟨Ao218, co218, eo218⟩ := Kd.R_slice HO108.out; subst eo218; have p115 : 0 ≤ (0 : Int) := (by omega); have q115 : 0 < (t106.length : Int) := of_decide_eq_true (by first | (with_reducible assumption) | assumption); obtain ⟨ad115, e115, hx115_0, hx115_1, hx115_2, hx115_3⟩ := at_T35 (Kd.R_reads' HO108.out).2.2 0 p115 q115; cases e115; have qi115 : (0 < t106.length) = True := eq_true (by omega); (try rw [show ((0 : Int)).toNat = 0 from rfl] at hx115_0); (try rw [show 0 * 4 = 0 from rfl] at hx115_0); (try rw [Addr.add_zero'] at hx115_0); (try rw [show ((0 : Int)).toNat = 0 from rfl] at hx115_1); (try rw [show 0 * 4 = 0 from rfl] at hx115_1); (try rw [Addr.add_zero'] at hx115_1); (try rw [show ((0 : Int)).toNat = 0 from rfl] at hx115_2); (try rw [show 0 * 4 = 0 from rfl] at hx115_2); (try rw [Addr.add_zero'] at hx115_2); (try rw [show ((0 : Int)).toNat = 0 from rfl] at hx115_3); (try rw [show 0 * 4 = 0 from rfl] at hx115_3); (try rw [Addr.add_zero'] at hx115_3); replace p115 := eq_true p115; replace q115 := eq_true q115)); try go_wp2_with (first | (go_at_call 9; (with_reducible refine (proofmarklaw02_head.calls true _ (by first | exact HG.out | (refine tab_below HG.out ?_; repeat (first | (with_reducible first | exact HB.out | apply below_alloc | apply pw_below_drewN | apply below_drew1 | refine below_set ?_ GE109.out | refine below_set ?_ GE117.out) | exact HB.out)) | (refine tab_drawn HG.out ?_; repeat (first | exact Drawn0.refl _ | apply drawn_drewN | apply drawn_drew))) A2.out).mono ?_); rintro e w211 ⟨rfl, hb⟩; have n0_ := Aside0.mk (below_step (by repeat (first | (with_reducible first | exact HB.out | apply below_alloc | apply pw_below_drewN | apply below_drew1) | exact HB.out)) hb); clear HB; have HB := n0_; clear n0_; (try clear hb); (try clear hb2); (try clear hk); (try clear hi)) | (go_at_call 10; (with_reducible refine (proofmarklaw02_few.calls a0 t102 _ A3.out).mono ?_); rintro e w212 ⟨rfl, hb⟩; have n0_ := Aside0.mk (below_step (by repeat (first | (with_reducible first | exact HB.out | apply below_alloc | apply pw_below_drewN | apply below_drew1) | exact HB.out)) hb); clear HB; have HB := n0_; clear n0_; (try clear hb); (try clear hb2); (try clear hk); (try clear hi)) | (go_at_call 11; (with_reducible refine (syn_Parse.calls t102 t103 t106 _ (by first | exact HG.out | (refine tab_below HG.out ?_; repeat (first | (with_reducible first | exact HB.out | apply below_alloc | apply pw_below_drewN | apply below_drew1 | refine below_set ?_ GE109.out | refine below_set ?_ GE117.out) | exact HB.out)) | (refine tab_drawn HG.out ?_; repeat (first | exact Drawn0.refl _ | apply drawn_drewN | apply drawn_drew))) A4.out).mono ?_); rintro e w213 ⟨v104, v107, rfl, ho0, ho1, hb⟩; have n0_ := Aside0.mk (Kd.R_lower ho0 (below_size (by repeat (first | (with_reducible first | exact HB.out | apply below_alloc | apply pw_below_drewN | apply below_drew1) | exact HB.out)))); have n1_ := Aside0.mk (Kd.R_lower ho1 (below_size (by repeat (first | (with_reducible first | exact HB.out | apply below_alloc | apply pw_below_drewN | apply below_drew1) | exact HB.out)))); have n2_ := Aside0.mk (below_step (by repeat (first | (with_reducible first | exact HB.out | apply below_alloc | apply pw_below_drewN | apply below_drew1) | exact HB.out)) hb); clear HB; have HO105 := n0_; have HO108 := n1_; have HB := n2_; clear n0_ n1_ n2_; (try clear hb); (try clear hb2); (try clear hk); (try clear hi); (try clear ho0); (try clear ho1)) | ((with_reducible refine gate_dst (N := 5) rfl ?_); (try (refine gate_guard (by rfl) ?_; dsimp only)); refine box_event ?hg (N := 5) ?hd (cs := #[.slice none 0 0]) (t := 26) ?hr ?_; (case hd => rfl); (case hg => rfl); (case hr => first | (go_simp; done) | (go_simp; rfl)); intro gb109 hg w214 hbox hb; have n0_ := Aside0.mk (Kd.R_below (by (with_reducible repeat (first | apply Kd.R_alloc | apply Kd.R_drewN | apply Kd.R_drew)); exact HO105.out) hb); have n1_ := Aside0.mk (Kd.R_below (by (with_reducible repeat (first | apply Kd.R_alloc | apply Kd.R_drewN | apply Kd.R_drew)); exact HO108.out) hb); have n2_ := Aside0.mk (below_step (by repeat (first | (with_reducible first | exact HB.out | apply below_alloc | apply pw_below_drewN | apply below_drew1) | exact HB.out)) hb); have n3_ := Aside0.mk (hbox); have n4_ := Aside0.mk ((by rw [hg]; exact (below_size (by repeat (first | (with_reducible first | exact HB.out | apply below_alloc | apply pw_below_drewN | apply below_drew1) | exact HB.out))) : w.heap.size ≤ gb109)); have n5_ := Aside0.mk ((by rw [hg]; exact (below_size (by repeat (first | (with_reducible first | exact HB.out | apply below_alloc | apply pw_below_drewN | apply below_drew1) | exact HB.out))) : w.heap.size ≤ gb109)); clear HO105; clear HO108; clear HB; have HO105 := n0_; have HO108 := n1_; have HB := n2_; have BK109 := n3_; have GW109 := n4_; have GE109 := n5_; clear n0_ n1_ n2_ n3_ n4_ n5_; clear hb hbox hg; obtain ⟨Ao215, co215, eo215⟩ := Kd.R_slice HO105.out; subst eo215; have hcz216_0 : w214.cell? ⟨gb109, 0, none⟩ = some (.slice none 0 0) := (blk_cell BK109.out 0).trans rfl; have hfz216_0 := blk_frozen BK109.out 0) | (go_at_call 12; (with_reducible refine (lex_Lex.calls t102 t110 t111 t112 _ (by first | exact HG.out | (refine tab_below HG.out ?_; repeat (first | (with_reducible first | exact HB.out | apply below_alloc | apply pw_below_drewN | apply below_drew1 | refine below_set ?_ GE109.out | refine below_set ?_ GE117.out) | exact HB.out)) | (refine tab_drawn HG.out ?_; repeat (first | exact Drawn0.refl _ | apply drawn_drewN | apply drawn_drew))) A5.out).mono ?_); rintro e w217 ⟨v113, rfl, ho0, hb⟩; have n0_ := Aside0.mk (Kd.R_below (by (with_reducible repeat (first | apply Kd.R_alloc | apply Kd.R_drewN | apply Kd.R_drew)); exact (Kd.R_mono (Kd.R_far (p := ⟨gb109, 0, none⟩) (Kd.R_types HO105.out BK109.out (by decide)) (fun _ hk => hk.2) (.slice Ao215 t103.length co215)) (fun _ h_ => h_.1))) hb); have n1_ := Aside0.mk (Kd.R_below (by (with_reducible repeat (first | apply Kd.R_alloc | apply Kd.R_drewN | apply Kd.R_drew)); exact (Kd.R_mono (Kd.R_far (p := ⟨gb109, 0, none⟩) (Kd.R_types HO108.out BK109.out (by decide)) (fun _ hk => hk.2) (.slice Ao215 t103.length co215)) (fun _ h_ => h_.1))) hb); have n2_ := Aside0.mk (Kd.R_lower ho0 (below_size (by repeat (first | (with_reducible first | exact HB.out | apply below_alloc | apply pw_below_drewN | apply below_drew1 | refine below_set ?_ GE109.out) | exact HB.out)))); have n3_ := Aside0.mk (blk_below (g := gb109) (o := .cells #[.slice Ao215 t103.length co215] 26 (0, 0)) (by (with_reducible repeat (first | refine blk_drewN ?_ _ | refine blk_drew ?_ | refine blk_alloc ?_ _)); refine blk_put (cs := #[.slice none 0 0]) ?_ 0 _ rfl; (with_reducible repeat (first | refine blk_drewN ?_ _ | refine blk_drew ?_ | refine blk_alloc ?_ _)); exact BK109.out) hb); have n4_ := Aside0.mk (below_step (by repeat (first | (with_reducible first | exact HB.out | apply below_alloc | apply pw_below_drewN | apply below_drew1 | refine below_set ?_ GE109.out) | exact HB.out)) hb); clear HO105; clear HO108; clear BK109; clear HB; have HO105 := n0_; have HO108 := n1_; have HO114 := n2_; have BK109 := n3_; have HB := n4_; clear n0_ n1_ n2_ n3_ n4_; (try clear hb); (try clear hb2); (try clear hk); (try clear hi); (try clear ho0); obtain ⟨Ao218, co218, eo218⟩ := Kd.R_slice HO108.out; subst eo218; have p115 : 0 ≤ (0 : Int) := (by omega); have q115 : 0 < (t106.length : Int) := of_decide_eq_true (by first | (with_reducible assumption) | assumption); obtain ⟨ad115, e115, hx115_0, hx115_1, hx115_2, hx115_3⟩ := at_T35 (Kd.R_reads' HO108.out).2.2 0 p115 q115; cases e115; have qi115 : (0 < t106.length) = True := eq_true (by omega); (try rw [show ((0 : Int)).toNat = 0 from rfl] at hx115_0); (try rw [show 0 * 4 = 0 from rfl] at hx115_0); (try rw [Addr.add_zero'] at hx115_0); (try rw [show ((0 : Int)).toNat = 0 from rfl] at hx115_1); (try rw [show 0 * 4 = 0 from rfl] at hx115_1); (try rw [Addr.add_zero'] at hx115_1); (try rw [show ((0 : Int)).toNat = 0 from rfl] at hx115_2); (try rw [show 0 * 4 = 0 from rfl] at hx115_2); (try rw [Addr.add_zero'] at hx115_2); (try rw [show ((0 : Int)).toNat = 0 from rfl] at hx115_3); (try rw [show 0 * 4 = 0 from rfl] at hx115_3); (try rw [Addr.add_zero'] at hx115_3); replace p115 := eq_true p115; replace q115 := eq_true q115)))
          go_ret
          exact ⟨by first | rfl | (simp [errW_none, errW_some] <;> rfl) | (simp [*, errW_none, errW_some] <;> rfl), by repeat (first | (with_reducible first | exact HB.out | apply below_alloc | apply pw_below_drewN | apply below_drew1 | refine below_set ?_ GE109.out) | exact HB.out)⟩
        · rw [if_neg c210] at H
          exact absurd H (by simp)
      · rw [if_neg c209] at H; exact absurd (Option.some.inj H) (by rw [HRT.out]; decide)
    · replace c208 := Bool.eq_false_iff.mpr c208
      subst c208
      have H1 : (some false) = some r := by rw [if_neg (show ¬ (false = true) by decide)] at H; exact H
      exact absurd (Option.some.inj H1) (by rw [HRT.out]; decide)
def proofmarklaw02_SynPlaces.Pure : Prop := ∀ (a0 : ByteArray), a0.size ≤ 140737488351232 → ∃ k, proofmarklaw02_SynPlaces.f k a0 = some true
theorem proofmarklaw02_SynPlaces.walk (P : proofmarklaw02_SynPlaces.Pure) (a0 : ByteArray) (w : World) (hG : Tab w) (w0 : a0.size ≤ 140737488351232) :
    Calls Tryd.prog 3 #[.string a0] w fun e w' => e = .returned (.bool true) ∧ Below w.heap.size w w' := by
  obtain ⟨k, h⟩ := P a0 w0
  refine (proofmarklaw02_SynPlaces.calls1 k a0 true w hG h rfl).mono ?_
  rintro e w' ⟨rfl, hd⟩
  exact ⟨rfl, hd⟩
end Go.Proofs.YtenogedclignmaaDoor.Q
