-- Written by the session's own program (wip/tools/ownprint.py) for this claim: functions of the translation as plain Lean functions, and their contracts.
import Derived.Test.YthegiggpkphieaaDoorQx0
import Derived.Test.YthegiggpkphieaaDoorQx4
import Derived.Test.YthegiggpkphieaaDoorHLex
import Derived.Test.YthegiggpkphieaaDoorHTab
namespace Go.Proofs.YthegiggpkphieaaDoor.Q
open Go.RowKit Go.Proofs.YthegiggpkphieaaDoorW.PrintWords Go.Proofs.YthegiggpkphieaaDoorW.PrintLast Go.Proofs.YthegiggpkphieaaDoorW.PrintMore
attribute [local go_sem] max2_int min2_int max_two min_two max_three min_three max_four min_four   -- for this text's walks alone
set_option linter.unusedVariables false
set_option linter.unusedSimpArgs false

/-! ### proofmarklaw01_LexPlaces: function 5 -/
mutual
def proofmarklaw01_LexPlaces.l0 : Nat → Bool → ByteArray → List (S33) → Int → Int → Int → Option (Bool)
  | 0, _, _, _, _, _, _ => none
  | k + 1, x3, x4, x5, x6, x8, x9 => if x9 < (x5.length : Int) then (if 0 ≤ x9 then (if ((rd_T33 x5 x9).f3) < x8 then (proofmarklaw01_LexPlaces.j1 k x3 x4 x5 x6 x9 true ((rd_T33 x5 x9).f0) ((rd_T33 x5 x9).f1) ((rd_T33 x5 x9).f2) ((rd_T33 x5 x9).f3)) else (if ((rd_T33 x5 x9).f1).toList = ([] : List UInt8) then (proofmarklaw01_LexPlaces.j1 k x3 x4 x5 x6 x9 true ((rd_T33 x5 x9).f0) ((rd_T33 x5 x9).f1) ((rd_T33 x5 x9).f2) ((rd_T33 x5 x9).f3)) else (if ((rd_T33 x5 x9).f3) > (wrap64 ((x4.size : Int) - (((rd_T33 x5 x9).f1).size : Int))) then (proofmarklaw01_LexPlaces.j1 k x3 x4 x5 x6 x9 true ((rd_T33 x5 x9).f0) ((rd_T33 x5 x9).f1) ((rd_T33 x5 x9).f2) ((rd_T33 x5 x9).f3)) else (if 0 ≤ ((rd_T33 x5 x9).f3) then (if ((rd_T33 x5 x9).f3) ≤ (wrap64 (((rd_T33 x5 x9).f3) + (((rd_T33 x5 x9).f1).size : Int))) then (if (wrap64 (((rd_T33 x5 x9).f3) + (((rd_T33 x5 x9).f1).size : Int))) ≤ (x4.size : Int) then (proofmarklaw01_LexPlaces.j1 k x3 x4 x5 x6 x9 ((x4.extract (((rd_T33 x5 x9).f3) : Int).toNat ((wrap64 (((rd_T33 x5 x9).f3) + (((rd_T33 x5 x9).f1).size : Int))) : Int).toNat).toList != ((rd_T33 x5 x9).f1).toList) ((rd_T33 x5 x9).f0) ((rd_T33 x5 x9).f1) ((rd_T33 x5 x9).f2) ((rd_T33 x5 x9).f3)) else (none)) else (none)) else (none))))) else (none)) else (if x3 = true then (if x6 = 0 then (some true) else (some ((x5.length : Int) == 0))) else (some false))
def proofmarklaw01_LexPlaces.j1 : Nat → Bool → ByteArray → List (S33) → Int → Int → Bool → Int → ByteArray → Int → Int → Option (Bool)
  | 0, _, _, _, _, _, _, _, _, _, _ => none
  | k + 1, x3, x4, x5, x6, x9, x66, x214000, x214001, x214002, x214003 => if x66 = true then (some false) else (if 0 < (x214001.size : Int) then ((proofmarkref01_Letter.f (bt x214001 0)).bind fun t214 => ((proofmarkref01_Digit.f (bt x214001 0)).bind fun t215 => (if ((x214000 == 1) != t214) = true then (some false) else (if ((x214000 == 2) != t215) = true then (some false) else (if x214000 = 2 then (if x214002 < 0 then (some false) else (if x214002 > 65535 then (some false) else (proofmarklaw01_LexPlaces.l0 k x3 x4 x5 x6 (wrap64 (x214003 + (x214001.size : Int))) (wrap64 (x9 + 1))))) else (if x214002 = 0 then (if x214002 < 0 then (some false) else (if x214002 > 65535 then (some false) else (proofmarklaw01_LexPlaces.l0 k x3 x4 x5 x6 (wrap64 (x214003 + (x214001.size : Int))) (wrap64 (x9 + 1))))) else (some false))))))) else (none))
end
def proofmarklaw01_LexPlaces.f (k : Nat) (a0 : ByteArray) : Option (Bool) := (proofmarklaw01_head.f k).bind fun t205 => ((proofmarklaw01_few.f a0).bind fun t206 => ((lex_Lex.f t206).bind fun bt207 => (proofmarklaw01_LexPlaces.l0 k t205 t206 bt207.1 bt207.2.1 0 0)))
theorem proofmarklaw01_LexPlaces.mono_l : ∀ k, (∀ y0 y1 y2 y3 y4 y5, LeO (proofmarklaw01_LexPlaces.l0 k y0 y1 y2 y3 y4 y5) (proofmarklaw01_LexPlaces.l0 (k + 1) y0 y1 y2 y3 y4 y5)) ∧ (∀ y0 y1 y2 y3 y4 y5 y6 y7 y8 y9, LeO (proofmarklaw01_LexPlaces.j1 k y0 y1 y2 y3 y4 y5 y6 y7 y8 y9) (proofmarklaw01_LexPlaces.j1 (k + 1) y0 y1 y2 y3 y4 y5 y6 y7 y8 y9))
  | 0 => ⟨fun _ _ _ _ _ _ r h => by simp [proofmarklaw01_LexPlaces.l0] at h, fun _ _ _ _ _ _ _ _ _ _ r h => by simp [proofmarklaw01_LexPlaces.j1] at h⟩
  | k + 1 => by
    obtain ⟨ih0, ih1⟩ := proofmarklaw01_LexPlaces.mono_l k
    refine ⟨?_, ?_⟩
    · intro y0 y1 y2 y3 y4 y5
      unfold proofmarklaw01_LexPlaces.l0
      repeat' first
      | (with_reducible exact ih0 _ _ _ _ _ _)
      | (with_reducible exact ih1 _ _ _ _ _ _ _ _ _ _)
      | (with_reducible exact proofmarklaw01_head.mono _)
      | (with_reducible exact LeO.refl _)
      | (with_reducible exact LeO.none _)
      | (with_reducible refine LeO.ite ?_ ?_)
      | (with_reducible refine LeO.bind ?_ (fun _ => ?_))
      | exact ih0 _ _ _ _ _ _
      | exact ih1 _ _ _ _ _ _ _ _ _ _
      | exact proofmarklaw01_head.mono _
      | exact LeO.none _
      | refine LeO.ite ?_ ?_
      | refine LeO.bind ?_ (fun _ => ?_)
    · intro y0 y1 y2 y3 y4 y5 y6 y7 y8 y9
      unfold proofmarklaw01_LexPlaces.j1
      repeat' first
      | (with_reducible exact ih0 _ _ _ _ _ _)
      | (with_reducible exact ih1 _ _ _ _ _ _ _ _ _ _)
      | (with_reducible exact proofmarklaw01_head.mono _)
      | (with_reducible exact LeO.refl _)
      | (with_reducible exact LeO.none _)
      | (with_reducible refine LeO.ite ?_ ?_)
      | (with_reducible refine LeO.bind ?_ (fun _ => ?_))
      | exact ih0 _ _ _ _ _ _
      | exact ih1 _ _ _ _ _ _ _ _ _ _
      | exact proofmarklaw01_head.mono _
      | exact LeO.none _
      | refine LeO.ite ?_ ?_
      | refine LeO.bind ?_ (fun _ => ?_)
theorem proofmarklaw01_LexPlaces.mono : ∀ a0 k, LeO (proofmarklaw01_LexPlaces.f k a0) (proofmarklaw01_LexPlaces.f (k + 1) a0) := by
  intro a0 k
  obtain ⟨ih0, ih1⟩ := proofmarklaw01_LexPlaces.mono_l k
  unfold proofmarklaw01_LexPlaces.f
  repeat' first
      | (with_reducible exact ih0 _ _ _ _ _ _)
      | (with_reducible exact ih1 _ _ _ _ _ _ _ _ _ _)
      | (with_reducible exact proofmarklaw01_head.mono _)
      | (with_reducible exact LeO.refl _)
      | (with_reducible exact LeO.none _)
      | (with_reducible refine LeO.ite ?_ ?_)
      | (with_reducible refine LeO.bind ?_ (fun _ => ?_))
      | exact ih0 _ _ _ _ _ _
      | exact ih1 _ _ _ _ _ _ _ _ _ _
      | exact proofmarklaw01_head.mono _
      | exact LeO.none _
      | refine LeO.ite ?_ ?_
      | refine LeO.bind ?_ (fun _ => ?_)
set_option maxHeartbeats 8000000 in
set_option maxRecDepth 100000 in
theorem proofmarklaw01_LexPlaces.calls (k : Nat) (a0 : ByteArray) (r : Bool) (w : World) (hG : Tab w) (h : proofmarklaw01_LexPlaces.f k a0 = some r) :
    Calls Tryd.prog 5 #[.string a0] w fun e w' => e = .returned (.bool r) ∧ Below w.heap.size w w' := by
  have HG := Aside0.mk hG
  clear hG
  have hu33 := Tryd.underlying33
  have HB := Aside0.mk (Below.refl w.heap.size w)
  have H : ((proofmarklaw01_head.f k).bind fun t205 => ((proofmarklaw01_few.f a0).bind fun t206 => ((lex_Lex.f t206).bind fun bt207 => (proofmarklaw01_LexPlaces.l0 k t205 t206 bt207.1 bt207.2.1 0 0)))) = some r := h
  clear h
  replace H := Option.bind_eq_some_iff.mp H
  obtain ⟨t205, A20, H⟩ := H
  replace H : ((proofmarklaw01_few.f a0).bind fun t206 => ((lex_Lex.f t206).bind fun bt207 => (proofmarklaw01_LexPlaces.l0 k t205 t206 bt207.1 bt207.2.1 0 0))) = some r := H
  have A2 := Aside0.mk A20
  clear A20
  replace H := Option.bind_eq_some_iff.mp H
  obtain ⟨t206, A30, H⟩ := H
  replace H : ((lex_Lex.f t206).bind fun bt207 => (proofmarklaw01_LexPlaces.l0 k t205 t206 bt207.1 bt207.2.1 0 0)) = some r := H
  have A3 := Aside0.mk A30
  clear A30
  replace H := Option.bind_eq_some_iff.mp H
  obtain ⟨⟨t207, t208, t209⟩, A40, H⟩ := H
  replace H : (proofmarklaw01_LexPlaces.l0 k t205 t206 t207 t208 0 0) = some r := H
  have A4 := Aside0.mk A40
  clear A40
  have H' := Aside0.mk H
  clear H
  go_enter Tryd.func5, Tryd.ntmps5
  go_wp2_with (first | (go_at_call 10; (with_reducible refine (proofmarklaw01_head.calls k t205 _ (by first | exact HG.out | (refine tab_below HG.out ?_; repeat (first | (with_reducible first | exact HB.out | apply below_alloc | apply pw_below_drewN | apply below_drew1) | exact HB.out)) | (refine tab_drawn HG.out ?_; repeat (first | exact Drawn0.refl _ | apply drawn_drewN | apply drawn_drew))) A2.out).mono ?_); rintro e w5 ⟨rfl, hb⟩; have n0_ := Aside0.mk (below_step (by repeat (first | (with_reducible first | exact HB.out | apply below_alloc | apply pw_below_drewN | apply below_drew1) | exact HB.out)) hb); clear HB; have HB := n0_; clear n0_; (try clear hb); (try clear hb2); (try clear hk); (try clear hi)) | (go_at_call 11; (with_reducible refine (proofmarklaw01_few.calls a0 t206 _ A3.out).mono ?_); rintro e w6 ⟨rfl, hb⟩; have n0_ := Aside0.mk (below_step (by repeat (first | (with_reducible first | exact HB.out | apply below_alloc | apply pw_below_drewN | apply below_drew1) | exact HB.out)) hb); clear HB; have HB := n0_; clear n0_; (try clear hb); (try clear hb2); (try clear hk); (try clear hi)) | (go_at_call 12; (with_reducible refine (lex_Lex.calls t206 t207 t208 t209 _ (by first | exact HG.out | (refine tab_below HG.out ?_; repeat (first | (with_reducible first | exact HB.out | apply below_alloc | apply pw_below_drewN | apply below_drew1) | exact HB.out)) | (refine tab_drawn HG.out ?_; repeat (first | exact Drawn0.refl _ | apply drawn_drewN | apply drawn_drew))) A4.out).mono ?_); rintro e w7 ⟨v210, rfl, ho0, hb⟩; have n0_ := Aside0.mk (Kd.R_lower ho0 (below_size (by repeat (first | (with_reducible first | exact HB.out | apply below_alloc | apply pw_below_drewN | apply below_drew1) | exact HB.out)))); have n1_ := Aside0.mk (below_step (by repeat (first | (with_reducible first | exact HB.out | apply below_alloc | apply pw_below_drewN | apply below_drew1) | exact HB.out)) hb); clear HB; have HO211 := n0_; have HB := n1_; clear n0_ n1_; (try clear hb); (try clear hb2); (try clear hk); (try clear hi); (try clear ho0)))
  repeat (go_quiet (first | (go_at_call 10; (with_reducible refine (proofmarklaw01_head.calls k t205 _ (by first | exact HG.out | (refine tab_below HG.out ?_; repeat (first | (with_reducible first | exact HB.out | apply below_alloc | apply pw_below_drewN | apply below_drew1) | exact HB.out)) | (refine tab_drawn HG.out ?_; repeat (first | exact Drawn0.refl _ | apply drawn_drewN | apply drawn_drew))) A2.out).mono ?_); rintro e w5 ⟨rfl, hb⟩; have n0_ := Aside0.mk (below_step (by repeat (first | (with_reducible first | exact HB.out | apply below_alloc | apply pw_below_drewN | apply below_drew1) | exact HB.out)) hb); clear HB; have HB := n0_; clear n0_; (try clear hb); (try clear hb2); (try clear hk); (try clear hi)) | (go_at_call 11; (with_reducible refine (proofmarklaw01_few.calls a0 t206 _ A3.out).mono ?_); rintro e w6 ⟨rfl, hb⟩; have n0_ := Aside0.mk (below_step (by repeat (first | (with_reducible first | exact HB.out | apply below_alloc | apply pw_below_drewN | apply below_drew1) | exact HB.out)) hb); clear HB; have HB := n0_; clear n0_; (try clear hb); (try clear hb2); (try clear hk); (try clear hi)) | (go_at_call 12; (with_reducible refine (lex_Lex.calls t206 t207 t208 t209 _ (by first | exact HG.out | (refine tab_below HG.out ?_; repeat (first | (with_reducible first | exact HB.out | apply below_alloc | apply pw_below_drewN | apply below_drew1) | exact HB.out)) | (refine tab_drawn HG.out ?_; repeat (first | exact Drawn0.refl _ | apply drawn_drewN | apply drawn_drew))) A4.out).mono ?_); rintro e w7 ⟨v210, rfl, ho0, hb⟩; have n0_ := Aside0.mk (Kd.R_lower ho0 (below_size (by repeat (first | (with_reducible first | exact HB.out | apply below_alloc | apply pw_below_drewN | apply below_drew1) | exact HB.out)))); have n1_ := Aside0.mk (below_step (by repeat (first | (with_reducible first | exact HB.out | apply below_alloc | apply pw_below_drewN | apply below_drew1) | exact HB.out)) hb); clear HB; have HO211 := n0_; have HB := n1_; clear n0_ n1_; (try clear hb); (try clear hb2); (try clear hk); (try clear hi); (try clear ho0))); try go_wp2_with (first | (go_at_call 10; (with_reducible refine (proofmarklaw01_head.calls k t205 _ (by first | exact HG.out | (refine tab_below HG.out ?_; repeat (first | (with_reducible first | exact HB.out | apply below_alloc | apply pw_below_drewN | apply below_drew1) | exact HB.out)) | (refine tab_drawn HG.out ?_; repeat (first | exact Drawn0.refl _ | apply drawn_drewN | apply drawn_drew))) A2.out).mono ?_); rintro e w5 ⟨rfl, hb⟩; have n0_ := Aside0.mk (below_step (by repeat (first | (with_reducible first | exact HB.out | apply below_alloc | apply pw_below_drewN | apply below_drew1) | exact HB.out)) hb); clear HB; have HB := n0_; clear n0_; (try clear hb); (try clear hb2); (try clear hk); (try clear hi)) | (go_at_call 11; (with_reducible refine (proofmarklaw01_few.calls a0 t206 _ A3.out).mono ?_); rintro e w6 ⟨rfl, hb⟩; have n0_ := Aside0.mk (below_step (by repeat (first | (with_reducible first | exact HB.out | apply below_alloc | apply pw_below_drewN | apply below_drew1) | exact HB.out)) hb); clear HB; have HB := n0_; clear n0_; (try clear hb); (try clear hb2); (try clear hk); (try clear hi)) | (go_at_call 12; (with_reducible refine (lex_Lex.calls t206 t207 t208 t209 _ (by first | exact HG.out | (refine tab_below HG.out ?_; repeat (first | (with_reducible first | exact HB.out | apply below_alloc | apply pw_below_drewN | apply below_drew1) | exact HB.out)) | (refine tab_drawn HG.out ?_; repeat (first | exact Drawn0.refl _ | apply drawn_drewN | apply drawn_drew))) A4.out).mono ?_); rintro e w7 ⟨v210, rfl, ho0, hb⟩; have n0_ := Aside0.mk (Kd.R_lower ho0 (below_size (by repeat (first | (with_reducible first | exact HB.out | apply below_alloc | apply pw_below_drewN | apply below_drew1) | exact HB.out)))); have n1_ := Aside0.mk (below_step (by repeat (first | (with_reducible first | exact HB.out | apply below_alloc | apply pw_below_drewN | apply below_drew1) | exact HB.out)) hb); clear HB; have HO211 := n0_; have HB := n1_; clear n0_ n1_; (try clear hb); (try clear hb2); (try clear hk); (try clear hi); (try clear ho0))))
  try simp only [Act.put, List.setIfInBounds_toArray, List.set_cons_succ, List.set_cons_zero]
  go_loopg [8, 9] k (fun kq v8 v9 w' => ∃ (x8_1 : Int) (x9_1 : Int), v8 = .int .i64 x8_1 ∧ v9 = .int .i64 x9_1 ∧ Aside0 (proofmarklaw01_LexPlaces.l0 kq t205 t206 t207 t208 x8_1 x9_1 = some r) ∧ Aside0 (kq ≤ k) ∧ Aside0 (Kd.R k33 33 w' w.heap.size (fun _ => True) v210 t207) ∧ Aside0 (Below w.heap.size w w'))
  case atStart => exact ⟨(0), (0), (by first | rfl | (simp; done) | (simp [*]; done)), (by first | rfl | (simp; done) | (simp [*]; done)), H', ⟨Nat.le_refl _⟩, ⟨by (with_reducible repeat (first | apply Kd.R_alloc | apply Kd.R_drewN | apply Kd.R_drew)); exact HO211.out⟩, ⟨by repeat (first | (with_reducible first | exact HB.out | apply below_alloc | apply pw_below_drewN | apply below_drew1) | exact HB.out)⟩⟩
  case round =>
    clear H'
    try clear p2
    try clear c5
    obtain ⟨x8_1, x9_1, rfl, rfl, HA, HK1, HO_5, HB⟩ := hrel
    cases gk with
    | zero => exact absurd HA.out (by simp [proofmarklaw01_LexPlaces.l0])
    | succ k1 =>
      have H := HA.out
      clear HA
      simp only [proofmarklaw01_LexPlaces.l0] at H
      by_cases c8 : x9_1 < (t207.length : Int)
      · rw [if_pos c8] at H
        have c8b0 : decide (x9_1 < (t207.length : Int)) = true := decide_eq_true c8
        clear c8
        by_cases c9 : 0 ≤ x9_1
        · rw [if_pos c9] at H
          have c9b0 : decide (0 ≤ x9_1) = true := decide_eq_true c9
          clear c9
          have HC10 := Aside0.mk H
          clear H
          obtain ⟨Ao11, co11, eo11⟩ := Kd.R_slice HO_5.out
          subst eo11
          have p212 : 0 ≤ (x9_1 : Int) := of_decide_eq_true (by first | (with_reducible assumption) | assumption)
          have q212 : x9_1 < (t207.length : Int) := of_decide_eq_true (by first | (with_reducible assumption) | assumption)
          obtain ⟨ad212, e212, hx212_0, hx212_1, hx212_2, hx212_3⟩ := at_T33 (Kd.R_reads' HO_5.out).2.2 x9_1 p212 q212
          cases e212
          replace p212 := eq_true p212
          replace q212 := eq_true q212
          go_upto_region 9 with (first | ((with_reducible refine gate_dst (N := 10) rfl ?_); (try (refine gate_guard (by rfl) ?_; dsimp only)); refine box_event ?hg (N := 10) ?hd (cs := #[.int .i64 0, .string (⟨#[]⟩ : ByteArray), .int .i64 0, .int .i64 0]) (t := 33) ?hr ?_; (case hd => rfl); (case hg => rfl); (case hr => first | (go_simp; done) | (go_simp; rfl)); intro gb213 hg w12 hbox hb; have n0_ := Aside0.mk (Kd.R_below (Kd.R_elderB (by (with_reducible repeat (first | apply Kd.R_alloc | apply Kd.R_drewN | apply Kd.R_drew)); exact HO_5.out) gb213 (Nat.le_of_eq hg.symm)) hb); have n1_ := Aside0.mk (below_step (by repeat (first | (with_reducible first | exact HB.out | apply below_alloc | apply pw_below_drewN | apply below_drew1) | exact HB.out)) hb); have n2_ := Aside0.mk (hbox); have n3_ := Aside0.mk ((by rw [hg]; exact (below_size (by repeat (first | (with_reducible first | exact HB.out | apply below_alloc | apply pw_below_drewN | apply below_drew1) | exact HB.out))) : w.heap.size ≤ gb213)); have n4_ := Aside0.mk ((by rw [hg]; exact (below_size (by repeat (first | (with_reducible first | exact HB.out | apply below_alloc | apply pw_below_drewN | apply below_drew1) | exact HB.out))) : w.heap.size ≤ gb213)); clear HO_5; clear HB; have HO_5 := n0_; have HB := n1_; have BK213 := n2_; have GW213 := n3_; have GE213 := n4_; clear n0_ n1_ n2_ n3_ n4_; clear hb hbox hg; have hcz13_0 : w12.cell? ⟨gb213, 0, none⟩ = some (.int .i64 0) := (blk_cell BK213.out 0).trans rfl; have hcz13_1 : w12.cell? ⟨gb213, 1, none⟩ = some (.string (⟨#[]⟩ : ByteArray)) := (blk_cell BK213.out 1).trans rfl; have hcz13_2 : w12.cell? ⟨gb213, 2, none⟩ = some (.int .i64 0) := (blk_cell BK213.out 2).trans rfl; have hcz13_3 : w12.cell? ⟨gb213, 3, none⟩ = some (.int .i64 0) := (blk_cell BK213.out 3).trans rfl; have hfz13_0 := blk_frozen BK213.out 0; have hfz13_1 := blk_frozen BK213.out 1; have hfz13_2 := blk_frozen BK213.out 2; have hfz13_3 := blk_frozen BK213.out 3))
          repeat (go_quiet (first | ((with_reducible refine gate_dst (N := 10) rfl ?_); (try (refine gate_guard (by rfl) ?_; dsimp only)); refine box_event ?hg (N := 10) ?hd (cs := #[.int .i64 0, .string (⟨#[]⟩ : ByteArray), .int .i64 0, .int .i64 0]) (t := 33) ?hr ?_; (case hd => rfl); (case hg => rfl); (case hr => first | (go_simp; done) | (go_simp; rfl)); intro gb213 hg w12 hbox hb; have n0_ := Aside0.mk (Kd.R_below (Kd.R_elderB (by (with_reducible repeat (first | apply Kd.R_alloc | apply Kd.R_drewN | apply Kd.R_drew)); exact HO_5.out) gb213 (Nat.le_of_eq hg.symm)) hb); have n1_ := Aside0.mk (below_step (by repeat (first | (with_reducible first | exact HB.out | apply below_alloc | apply pw_below_drewN | apply below_drew1) | exact HB.out)) hb); have n2_ := Aside0.mk (hbox); have n3_ := Aside0.mk ((by rw [hg]; exact (below_size (by repeat (first | (with_reducible first | exact HB.out | apply below_alloc | apply pw_below_drewN | apply below_drew1) | exact HB.out))) : w.heap.size ≤ gb213)); have n4_ := Aside0.mk ((by rw [hg]; exact (below_size (by repeat (first | (with_reducible first | exact HB.out | apply below_alloc | apply pw_below_drewN | apply below_drew1) | exact HB.out))) : w.heap.size ≤ gb213)); clear HO_5; clear HB; have HO_5 := n0_; have HB := n1_; have BK213 := n2_; have GW213 := n3_; have GE213 := n4_; clear n0_ n1_ n2_ n3_ n4_; clear hb hbox hg; have hcz13_0 : w12.cell? ⟨gb213, 0, none⟩ = some (.int .i64 0) := (blk_cell BK213.out 0).trans rfl; have hcz13_1 : w12.cell? ⟨gb213, 1, none⟩ = some (.string (⟨#[]⟩ : ByteArray)) := (blk_cell BK213.out 1).trans rfl; have hcz13_2 : w12.cell? ⟨gb213, 2, none⟩ = some (.int .i64 0) := (blk_cell BK213.out 2).trans rfl; have hcz13_3 : w12.cell? ⟨gb213, 3, none⟩ = some (.int .i64 0) := (blk_cell BK213.out 3).trans rfl; have hfz13_0 := blk_frozen BK213.out 0; have hfz13_1 := blk_frozen BK213.out 1; have hfz13_2 := blk_frozen BK213.out 2; have hfz13_3 := blk_frozen BK213.out 3)); go_upto_region 9 with (first | ((with_reducible refine gate_dst (N := 10) rfl ?_); (try (refine gate_guard (by rfl) ?_; dsimp only)); refine box_event ?hg (N := 10) ?hd (cs := #[.int .i64 0, .string (⟨#[]⟩ : ByteArray), .int .i64 0, .int .i64 0]) (t := 33) ?hr ?_; (case hd => rfl); (case hg => rfl); (case hr => first | (go_simp; done) | (go_simp; rfl)); intro gb213 hg w12 hbox hb; have n0_ := Aside0.mk (Kd.R_below (Kd.R_elderB (by (with_reducible repeat (first | apply Kd.R_alloc | apply Kd.R_drewN | apply Kd.R_drew)); exact HO_5.out) gb213 (Nat.le_of_eq hg.symm)) hb); have n1_ := Aside0.mk (below_step (by repeat (first | (with_reducible first | exact HB.out | apply below_alloc | apply pw_below_drewN | apply below_drew1) | exact HB.out)) hb); have n2_ := Aside0.mk (hbox); have n3_ := Aside0.mk ((by rw [hg]; exact (below_size (by repeat (first | (with_reducible first | exact HB.out | apply below_alloc | apply pw_below_drewN | apply below_drew1) | exact HB.out))) : w.heap.size ≤ gb213)); have n4_ := Aside0.mk ((by rw [hg]; exact (below_size (by repeat (first | (with_reducible first | exact HB.out | apply below_alloc | apply pw_below_drewN | apply below_drew1) | exact HB.out))) : w.heap.size ≤ gb213)); clear HO_5; clear HB; have HO_5 := n0_; have HB := n1_; have BK213 := n2_; have GW213 := n3_; have GE213 := n4_; clear n0_ n1_ n2_ n3_ n4_; clear hb hbox hg; have hcz13_0 : w12.cell? ⟨gb213, 0, none⟩ = some (.int .i64 0) := (blk_cell BK213.out 0).trans rfl; have hcz13_1 : w12.cell? ⟨gb213, 1, none⟩ = some (.string (⟨#[]⟩ : ByteArray)) := (blk_cell BK213.out 1).trans rfl; have hcz13_2 : w12.cell? ⟨gb213, 2, none⟩ = some (.int .i64 0) := (blk_cell BK213.out 2).trans rfl; have hcz13_3 : w12.cell? ⟨gb213, 3, none⟩ = some (.int .i64 0) := (blk_cell BK213.out 3).trans rfl; have hfz13_0 := blk_frozen BK213.out 0; have hfz13_1 := blk_frozen BK213.out 1; have hfz13_2 := blk_frozen BK213.out 2; have hfz13_3 := blk_frozen BK213.out 3)))
          (try simp only [Act.put, List.setIfInBounds_toArray, List.set_cons_zero, List.set_cons_succ])
          go_cut [66] (fun v66 wc => ∃ (kq : Nat) (x66_9 : Bool), v66 = .bool x66_9 ∧ Aside0 (proofmarklaw01_LexPlaces.j1 kq t205 t206 t207 t208 x9_1 x66_9 ((rd_T33 t207 x9_1).f0) ((rd_T33 t207 x9_1).f1) ((rd_T33 t207 x9_1).f2) ((rd_T33 t207 x9_1).f3) = some r) ∧ Aside0 (kq ≤ k1) ∧ Aside0 (Kd.R k33 33 wc w.heap.size (fun k_ => k_ ≠ gb213) (.slice (some ad212) t207.length co11) t207) ∧ Aside0 (wc.heap[gb213]? = some (.cells #[.int .i64 ((rd_T33 t207 x9_1).f0), .string ((rd_T33 t207 x9_1).f1), .int .i64 ((rd_T33 t207 x9_1).f2), .int .i64 ((rd_T33 t207 x9_1).f3)] 33 (0, 0))) ∧ Aside0 (Below w.heap.size w wc))
          case first =>
            have H := HC10.out
            clear HC10
            by_cases c14 : ((rd_T33 t207 x9_1).f3) < x8_1
            · rw [if_pos c14] at H
              have c14b0 : decide (((rd_T33 t207 x9_1).f3) < x8_1) = true := decide_eq_true c14
              clear c14
              (first | rw [c14b0] | (simp only [i64_w, i32_w]; rw [c14b0]) | skip)
              have H' := Aside0.mk H
              clear H
              have hcz15_0 : w12.cell? ⟨gb213, 0, none⟩ = some (.int .i64 0) := (blk_cell BK213.out 0).trans rfl
              have hcz15_1 : w12.cell? ⟨gb213, 1, none⟩ = some (.string (⟨#[]⟩ : ByteArray)) := (blk_cell BK213.out 1).trans rfl
              have hcz15_2 : w12.cell? ⟨gb213, 2, none⟩ = some (.int .i64 0) := (blk_cell BK213.out 2).trans rfl
              have hcz15_3 : w12.cell? ⟨gb213, 3, none⟩ = some (.int .i64 0) := (blk_cell BK213.out 3).trans rfl
              have hfz15_0 := blk_frozen BK213.out 0
              have hfz15_1 := blk_frozen BK213.out 1
              have hfz15_2 := blk_frozen BK213.out 2
              have hfz15_3 := blk_frozen BK213.out 3
              go_wp2
              repeat (go_quiet (fail); try go_wp2)
              go_meet
              case rel => exact ⟨_, (true), (by first | rfl | (simp; done) | (simp [*]; done)), H', ⟨by have := HK1.out; first | omega | exact Nat.le_refl _⟩, ⟨by (with_reducible repeat (first | apply Kd.R_alloc | apply Kd.R_drewN | apply Kd.R_drew)); exact Kd.R_mono (Kd.R_far (p := ⟨gb213, 3, none⟩) (Kd.R_far (p := ⟨gb213, 2, none⟩) (Kd.R_far (p := ⟨gb213, 1, none⟩) (Kd.R_far (p := ⟨gb213, 0, none⟩) (Kd.R_mono HO_5.out (fun k_ hk => (⟨hk, hk.2⟩ : _ ∧ k_ ≠ gb213))) (fun _ hk => hk.2) (.int .i64 ((rd_T33 t207 x9_1).f0))) (fun _ hk => hk.2) (.string ((rd_T33 t207 x9_1).f1))) (fun _ hk => hk.2) (.int .i64 ((rd_T33 t207 x9_1).f2))) (fun _ hk => hk.2) (.int .i64 ((rd_T33 t207 x9_1).f3))) (fun _ hk => hk.1.2)⟩, ⟨by (with_reducible repeat (first | refine blk_drewN ?_ _ | refine blk_drew ?_ | refine blk_alloc ?_ _)); refine blk_put (cs := #[.int .i64 ((rd_T33 t207 x9_1).f0), .string ((rd_T33 t207 x9_1).f1), .int .i64 ((rd_T33 t207 x9_1).f2), .int .i64 0]) ?_ 3 _ rfl; (with_reducible repeat (first | refine blk_drewN ?_ _ | refine blk_drew ?_ | refine blk_alloc ?_ _)); refine blk_put (cs := #[.int .i64 ((rd_T33 t207 x9_1).f0), .string ((rd_T33 t207 x9_1).f1), .int .i64 0, .int .i64 0]) ?_ 2 _ rfl; (with_reducible repeat (first | refine blk_drewN ?_ _ | refine blk_drew ?_ | refine blk_alloc ?_ _)); refine blk_put (cs := #[.int .i64 ((rd_T33 t207 x9_1).f0), .string (⟨#[]⟩ : ByteArray), .int .i64 0, .int .i64 0]) ?_ 1 _ rfl; (with_reducible repeat (first | refine blk_drewN ?_ _ | refine blk_drew ?_ | refine blk_alloc ?_ _)); refine blk_put (cs := #[.int .i64 0, .string (⟨#[]⟩ : ByteArray), .int .i64 0, .int .i64 0]) ?_ 0 _ rfl; (with_reducible repeat (first | refine blk_drewN ?_ _ | refine blk_drew ?_ | refine blk_alloc ?_ _)); exact BK213.out⟩, ⟨by repeat (first | (with_reducible first | exact HB.out | apply below_alloc | apply pw_below_drewN | apply below_drew1 | refine below_set ?_ GE213.out) | exact HB.out)⟩⟩
            · rw [if_neg c14] at H
              have c14b0 : decide (((rd_T33 t207 x9_1).f3) < x8_1) = false := decide_eq_false c14
              clear c14
              (first | rw [c14b0] | (simp only [i64_w, i32_w]; rw [c14b0]) | skip)
              by_cases c16 : ((rd_T33 t207 x9_1).f1).toList = ([] : List UInt8)
              · rw [if_pos c16] at H
                have c16b0 : (((rd_T33 t207 x9_1).f1).toList == ([] : List UInt8)) = true := beq_iff_eq.mpr c16
                have c16b1 : (((rd_T33 t207 x9_1).f1).toList != ([] : List UInt8)) = false := bne_eq_false_iff_eq.mpr c16
                clear c16
                have H' := Aside0.mk H
                clear H
                have hcz17_0 : w12.cell? ⟨gb213, 0, none⟩ = some (.int .i64 0) := (blk_cell BK213.out 0).trans rfl
                have hcz17_1 : w12.cell? ⟨gb213, 1, none⟩ = some (.string (⟨#[]⟩ : ByteArray)) := (blk_cell BK213.out 1).trans rfl
                have hcz17_2 : w12.cell? ⟨gb213, 2, none⟩ = some (.int .i64 0) := (blk_cell BK213.out 2).trans rfl
                have hcz17_3 : w12.cell? ⟨gb213, 3, none⟩ = some (.int .i64 0) := (blk_cell BK213.out 3).trans rfl
                have hfz17_0 := blk_frozen BK213.out 0
                have hfz17_1 := blk_frozen BK213.out 1
                have hfz17_2 := blk_frozen BK213.out 2
                have hfz17_3 := blk_frozen BK213.out 3
                go_wp2
                repeat (go_quiet (fail); try go_wp2)
                go_meet
                case rel => exact ⟨_, (true), (by first | rfl | (simp; done) | (simp [*]; done)), H', ⟨by have := HK1.out; first | omega | exact Nat.le_refl _⟩, ⟨by (with_reducible repeat (first | apply Kd.R_alloc | apply Kd.R_drewN | apply Kd.R_drew)); exact Kd.R_mono (Kd.R_far (p := ⟨gb213, 3, none⟩) (Kd.R_far (p := ⟨gb213, 2, none⟩) (Kd.R_far (p := ⟨gb213, 1, none⟩) (Kd.R_far (p := ⟨gb213, 0, none⟩) (Kd.R_mono HO_5.out (fun k_ hk => (⟨hk, hk.2⟩ : _ ∧ k_ ≠ gb213))) (fun _ hk => hk.2) (.int .i64 ((rd_T33 t207 x9_1).f0))) (fun _ hk => hk.2) (.string ((rd_T33 t207 x9_1).f1))) (fun _ hk => hk.2) (.int .i64 ((rd_T33 t207 x9_1).f2))) (fun _ hk => hk.2) (.int .i64 ((rd_T33 t207 x9_1).f3))) (fun _ hk => hk.1.2)⟩, ⟨by (with_reducible repeat (first | refine blk_drewN ?_ _ | refine blk_drew ?_ | refine blk_alloc ?_ _)); refine blk_put (cs := #[.int .i64 ((rd_T33 t207 x9_1).f0), .string ((rd_T33 t207 x9_1).f1), .int .i64 ((rd_T33 t207 x9_1).f2), .int .i64 0]) ?_ 3 _ rfl; (with_reducible repeat (first | refine blk_drewN ?_ _ | refine blk_drew ?_ | refine blk_alloc ?_ _)); refine blk_put (cs := #[.int .i64 ((rd_T33 t207 x9_1).f0), .string ((rd_T33 t207 x9_1).f1), .int .i64 0, .int .i64 0]) ?_ 2 _ rfl; (with_reducible repeat (first | refine blk_drewN ?_ _ | refine blk_drew ?_ | refine blk_alloc ?_ _)); refine blk_put (cs := #[.int .i64 ((rd_T33 t207 x9_1).f0), .string (⟨#[]⟩ : ByteArray), .int .i64 0, .int .i64 0]) ?_ 1 _ rfl; (with_reducible repeat (first | refine blk_drewN ?_ _ | refine blk_drew ?_ | refine blk_alloc ?_ _)); refine blk_put (cs := #[.int .i64 0, .string (⟨#[]⟩ : ByteArray), .int .i64 0, .int .i64 0]) ?_ 0 _ rfl; (with_reducible repeat (first | refine blk_drewN ?_ _ | refine blk_drew ?_ | refine blk_alloc ?_ _)); exact BK213.out⟩, ⟨by repeat (first | (with_reducible first | exact HB.out | apply below_alloc | apply pw_below_drewN | apply below_drew1 | refine below_set ?_ GE213.out) | exact HB.out)⟩⟩
              · rw [if_neg c16] at H
                have c16b0 : (((rd_T33 t207 x9_1).f1).toList == ([] : List UInt8)) = false := beq_eq_false_iff_ne.mpr c16
                have c16b1 : (((rd_T33 t207 x9_1).f1).toList != ([] : List UInt8)) = true := bne_iff_ne.mpr c16
                by_cases c18 : ((rd_T33 t207 x9_1).f3) > (wrap64 ((t206.size : Int) - (((rd_T33 t207 x9_1).f1).size : Int)))
                · rw [if_pos c18] at H
                  have c18b0 : decide ((wrap64 ((t206.size : Int) - (((rd_T33 t207 x9_1).f1).size : Int))) < ((rd_T33 t207 x9_1).f3)) = true := decide_eq_true c18
                  clear c18
                  have H' := Aside0.mk H
                  clear H
                  have hcz19_0 : w12.cell? ⟨gb213, 0, none⟩ = some (.int .i64 0) := (blk_cell BK213.out 0).trans rfl
                  have hcz19_1 : w12.cell? ⟨gb213, 1, none⟩ = some (.string (⟨#[]⟩ : ByteArray)) := (blk_cell BK213.out 1).trans rfl
                  have hcz19_2 : w12.cell? ⟨gb213, 2, none⟩ = some (.int .i64 0) := (blk_cell BK213.out 2).trans rfl
                  have hcz19_3 : w12.cell? ⟨gb213, 3, none⟩ = some (.int .i64 0) := (blk_cell BK213.out 3).trans rfl
                  have hfz19_0 := blk_frozen BK213.out 0
                  have hfz19_1 := blk_frozen BK213.out 1
                  have hfz19_2 := blk_frozen BK213.out 2
                  have hfz19_3 := blk_frozen BK213.out 3
                  go_wp2
                  repeat (go_quiet (fail); try go_wp2)
                  go_meet
                  case rel => exact ⟨_, (true), (by first | rfl | (simp; done) | (simp [*]; done)), H', ⟨by have := HK1.out; first | omega | exact Nat.le_refl _⟩, ⟨by (with_reducible repeat (first | apply Kd.R_alloc | apply Kd.R_drewN | apply Kd.R_drew)); exact Kd.R_mono (Kd.R_far (p := ⟨gb213, 3, none⟩) (Kd.R_far (p := ⟨gb213, 2, none⟩) (Kd.R_far (p := ⟨gb213, 1, none⟩) (Kd.R_far (p := ⟨gb213, 0, none⟩) (Kd.R_mono HO_5.out (fun k_ hk => (⟨hk, hk.2⟩ : _ ∧ k_ ≠ gb213))) (fun _ hk => hk.2) (.int .i64 ((rd_T33 t207 x9_1).f0))) (fun _ hk => hk.2) (.string ((rd_T33 t207 x9_1).f1))) (fun _ hk => hk.2) (.int .i64 ((rd_T33 t207 x9_1).f2))) (fun _ hk => hk.2) (.int .i64 ((rd_T33 t207 x9_1).f3))) (fun _ hk => hk.1.2)⟩, ⟨by (with_reducible repeat (first | refine blk_drewN ?_ _ | refine blk_drew ?_ | refine blk_alloc ?_ _)); refine blk_put (cs := #[.int .i64 ((rd_T33 t207 x9_1).f0), .string ((rd_T33 t207 x9_1).f1), .int .i64 ((rd_T33 t207 x9_1).f2), .int .i64 0]) ?_ 3 _ rfl; (with_reducible repeat (first | refine blk_drewN ?_ _ | refine blk_drew ?_ | refine blk_alloc ?_ _)); refine blk_put (cs := #[.int .i64 ((rd_T33 t207 x9_1).f0), .string ((rd_T33 t207 x9_1).f1), .int .i64 0, .int .i64 0]) ?_ 2 _ rfl; (with_reducible repeat (first | refine blk_drewN ?_ _ | refine blk_drew ?_ | refine blk_alloc ?_ _)); refine blk_put (cs := #[.int .i64 ((rd_T33 t207 x9_1).f0), .string (⟨#[]⟩ : ByteArray), .int .i64 0, .int .i64 0]) ?_ 1 _ rfl; (with_reducible repeat (first | refine blk_drewN ?_ _ | refine blk_drew ?_ | refine blk_alloc ?_ _)); refine blk_put (cs := #[.int .i64 0, .string (⟨#[]⟩ : ByteArray), .int .i64 0, .int .i64 0]) ?_ 0 _ rfl; (with_reducible repeat (first | refine blk_drewN ?_ _ | refine blk_drew ?_ | refine blk_alloc ?_ _)); exact BK213.out⟩, ⟨by repeat (first | (with_reducible first | exact HB.out | apply below_alloc | apply pw_below_drewN | apply below_drew1 | refine below_set ?_ GE213.out) | exact HB.out)⟩⟩
                · rw [if_neg c18] at H
                  have c18b0 : decide ((wrap64 ((t206.size : Int) - (((rd_T33 t207 x9_1).f1).size : Int))) < ((rd_T33 t207 x9_1).f3)) = false := decide_eq_false c18
                  clear c18
                  by_cases c20 : 0 ≤ ((rd_T33 t207 x9_1).f3)
                  · rw [if_pos c20] at H
                    have c20b0 := eq_true c20
                    have c20b1 : decide (0 ≤ ((rd_T33 t207 x9_1).f3)) = true := decide_eq_true c20
                    clear c20
                    by_cases c21 : ((rd_T33 t207 x9_1).f3) ≤ (wrap64 (((rd_T33 t207 x9_1).f3) + (((rd_T33 t207 x9_1).f1).size : Int)))
                    · rw [if_pos c21] at H
                      have c21b0 := eq_true c21
                      have c21b1 : decide (((rd_T33 t207 x9_1).f3) ≤ (wrap64 (((rd_T33 t207 x9_1).f3) + (((rd_T33 t207 x9_1).f1).size : Int)))) = true := decide_eq_true c21
                      by_cases c22 : (wrap64 (((rd_T33 t207 x9_1).f3) + (((rd_T33 t207 x9_1).f1).size : Int))) ≤ (t206.size : Int)
                      · rw [if_pos c22] at H
                        have c22b0 := eq_true c22
                        have c22b1 : decide ((wrap64 (((rd_T33 t207 x9_1).f3) + (((rd_T33 t207 x9_1).f1).size : Int))) ≤ (t206.size : Int)) = true := decide_eq_true c22
                        have H' := Aside0.mk H
                        clear H
                        have hcz23_0 : w12.cell? ⟨gb213, 0, none⟩ = some (.int .i64 0) := (blk_cell BK213.out 0).trans rfl
                        have hcz23_1 : w12.cell? ⟨gb213, 1, none⟩ = some (.string (⟨#[]⟩ : ByteArray)) := (blk_cell BK213.out 1).trans rfl
                        have hcz23_2 : w12.cell? ⟨gb213, 2, none⟩ = some (.int .i64 0) := (blk_cell BK213.out 2).trans rfl
                        have hcz23_3 : w12.cell? ⟨gb213, 3, none⟩ = some (.int .i64 0) := (blk_cell BK213.out 3).trans rfl
                        have hfz23_0 := blk_frozen BK213.out 0
                        have hfz23_1 := blk_frozen BK213.out 1
                        have hfz23_2 := blk_frozen BK213.out 2
                        have hfz23_3 := blk_frozen BK213.out 3
                        go_wp2
                        repeat (go_quiet (fail); try go_wp2)
                        go_meet
                        case rel => exact ⟨_, (((t206.extract (((rd_T33 t207 x9_1).f3) : Int).toNat ((wrap64 (((rd_T33 t207 x9_1).f3) + (((rd_T33 t207 x9_1).f1).size : Int))) : Int).toNat).toList != ((rd_T33 t207 x9_1).f1).toList)), (by first | rfl | (simp; done) | (simp [*]; done)), H', ⟨by have := HK1.out; first | omega | exact Nat.le_refl _⟩, ⟨by (with_reducible repeat (first | apply Kd.R_alloc | apply Kd.R_drewN | apply Kd.R_drew)); exact Kd.R_mono (Kd.R_far (p := ⟨gb213, 3, none⟩) (Kd.R_far (p := ⟨gb213, 2, none⟩) (Kd.R_far (p := ⟨gb213, 1, none⟩) (Kd.R_far (p := ⟨gb213, 0, none⟩) (Kd.R_mono HO_5.out (fun k_ hk => (⟨hk, hk.2⟩ : _ ∧ k_ ≠ gb213))) (fun _ hk => hk.2) (.int .i64 ((rd_T33 t207 x9_1).f0))) (fun _ hk => hk.2) (.string ((rd_T33 t207 x9_1).f1))) (fun _ hk => hk.2) (.int .i64 ((rd_T33 t207 x9_1).f2))) (fun _ hk => hk.2) (.int .i64 ((rd_T33 t207 x9_1).f3))) (fun _ hk => hk.1.2)⟩, ⟨by (with_reducible repeat (first | refine blk_drewN ?_ _ | refine blk_drew ?_ | refine blk_alloc ?_ _)); refine blk_put (cs := #[.int .i64 ((rd_T33 t207 x9_1).f0), .string ((rd_T33 t207 x9_1).f1), .int .i64 ((rd_T33 t207 x9_1).f2), .int .i64 0]) ?_ 3 _ rfl; (with_reducible repeat (first | refine blk_drewN ?_ _ | refine blk_drew ?_ | refine blk_alloc ?_ _)); refine blk_put (cs := #[.int .i64 ((rd_T33 t207 x9_1).f0), .string ((rd_T33 t207 x9_1).f1), .int .i64 0, .int .i64 0]) ?_ 2 _ rfl; (with_reducible repeat (first | refine blk_drewN ?_ _ | refine blk_drew ?_ | refine blk_alloc ?_ _)); refine blk_put (cs := #[.int .i64 ((rd_T33 t207 x9_1).f0), .string (⟨#[]⟩ : ByteArray), .int .i64 0, .int .i64 0]) ?_ 1 _ rfl; (with_reducible repeat (first | refine blk_drewN ?_ _ | refine blk_drew ?_ | refine blk_alloc ?_ _)); refine blk_put (cs := #[.int .i64 0, .string (⟨#[]⟩ : ByteArray), .int .i64 0, .int .i64 0]) ?_ 0 _ rfl; (with_reducible repeat (first | refine blk_drewN ?_ _ | refine blk_drew ?_ | refine blk_alloc ?_ _)); exact BK213.out⟩, ⟨by repeat (first | (with_reducible first | exact HB.out | apply below_alloc | apply pw_below_drewN | apply below_drew1 | refine below_set ?_ GE213.out) | exact HB.out)⟩⟩
                      · rw [if_neg c22] at H
                        exact absurd H (by simp)
                    · rw [if_neg c21] at H
                      exact absurd H (by simp)
                  · rw [if_neg c20] at H
                    exact absurd H (by simp)
          case rest =>
            clear HC10
            try clear c1
            try clear c2
            try clear p2
            try clear q2
            try clear hx2
            try clear c5
            try clear p6
            try clear c8
            try clear c8b0
            try clear c9
            try clear c9b0
            try clear c14
            try clear c14b0
            try clear c16
            try clear c16b0
            try clear c16b1
            try clear c18
            try clear c18b0
            try clear c20
            try clear c20b0
            try clear c20b1
            try clear c21
            try clear c21b0
            try clear c21b1
            try clear p21
            try clear q21
            try clear hx21
            try clear c22
            try clear c22b0
            try clear c22b1
            try clear hcz13_0
            try clear hcz13_1
            try clear hcz13_2
            try clear hcz13_3
            try clear hcz15_0
            try clear hcz15_1
            try clear hcz15_2
            try clear hcz15_3
            try clear hcz17_0
            try clear hcz17_1
            try clear hcz17_2
            try clear hcz17_3
            try clear hcz19_0
            try clear hcz19_1
            try clear hcz19_2
            try clear hcz19_3
            try clear hcz23_0
            try clear hcz23_1
            try clear hcz23_2
            try clear hcz23_3
            try clear hfz13_0
            try clear hfz13_1
            try clear hfz13_2
            try clear hfz13_3
            try clear hfz15_0
            try clear hfz15_1
            try clear hfz15_2
            try clear hfz15_3
            try clear hfz17_0
            try clear hfz17_1
            try clear hfz17_2
            try clear hfz17_3
            try clear hfz19_0
            try clear hfz19_1
            try clear hfz19_2
            try clear hfz19_3
            try clear hfz23_0
            try clear hfz23_1
            try clear hfz23_2
            try clear hfz23_3
            try clear hx212_0
            try clear hx212_1
            try clear hx212_2
            try clear hx212_3
            try clear p2
            try clear p212
            try clear q212
            obtain ⟨kq, x66_9, rfl, HA, HJ9, HO_5, BK213, HB⟩ := hcut
            cases kq with
            | zero => exact absurd HA.out (by simp [proofmarklaw01_LexPlaces.j1])
            | succ kj9 =>
              have H := HA.out
              clear HA
              simp only [proofmarklaw01_LexPlaces.j1] at H
              by_cases c24 : x66_9 = true
              · subst c24
                have H1 : (some false) = some r := by rw [if_pos rfl] at H; exact H
                clear H
                have H := H1
                clear H1
                obtain rfl := Option.some.inj H
                go_wp2
                repeat (go_quiet (fail); try go_wp2)
                go_ret
                exact ⟨by first | rfl | (simp [errW_none, errW_some] <;> rfl) | (simp [*, errW_none, errW_some] <;> rfl), by repeat (first | (with_reducible first | exact HB.out | apply below_alloc | apply pw_below_drewN | apply below_drew1 | refine below_set ?_ GE213.out) | exact HB.out)⟩
              · replace c24 := Bool.eq_false_iff.mpr c24
                subst c24
                have H1 : (if 0 < (((rd_T33 t207 x9_1).f1).size : Int) then ((proofmarkref01_Letter.f (bt ((rd_T33 t207 x9_1).f1) 0)).bind fun t214 => ((proofmarkref01_Digit.f (bt ((rd_T33 t207 x9_1).f1) 0)).bind fun t215 => (if ((((rd_T33 t207 x9_1).f0) == 1) != t214) = true then (some false) else (if ((((rd_T33 t207 x9_1).f0) == 2) != t215) = true then (some false) else (if ((rd_T33 t207 x9_1).f0) = 2 then (if ((rd_T33 t207 x9_1).f2) < 0 then (some false) else (if ((rd_T33 t207 x9_1).f2) > 65535 then (some false) else (proofmarklaw01_LexPlaces.l0 kj9 t205 t206 t207 t208 (wrap64 (((rd_T33 t207 x9_1).f3) + (((rd_T33 t207 x9_1).f1).size : Int))) (wrap64 (x9_1 + 1))))) else (if ((rd_T33 t207 x9_1).f2) = 0 then (if ((rd_T33 t207 x9_1).f2) < 0 then (some false) else (if ((rd_T33 t207 x9_1).f2) > 65535 then (some false) else (proofmarklaw01_LexPlaces.l0 kj9 t205 t206 t207 t208 (wrap64 (((rd_T33 t207 x9_1).f3) + (((rd_T33 t207 x9_1).f1).size : Int))) (wrap64 (x9_1 + 1))))) else (some false))))))) else (none)) = some r := by rw [if_neg (show ¬ (false = true) by decide)] at H; exact H
                clear H
                have H := H1
                clear H1
                by_cases c25 : 0 < (((rd_T33 t207 x9_1).f1).size : Int)
                · rw [if_pos c25] at H
                  have c25b0 : decide (0 < (((rd_T33 t207 x9_1).f1).size : Int)) = true := decide_eq_true c25
                  have c25b1 : decide (0 < ((rd_T33 t207 x9_1).f1).size) = true := decide_eq_true (by omega)
                  clear c25
                  replace H := Option.bind_eq_some_iff.mp H
                  obtain ⟨t214, A270, H⟩ := H
                  replace H : ((proofmarkref01_Digit.f (bt ((rd_T33 t207 x9_1).f1) 0)).bind fun t215 => (if ((((rd_T33 t207 x9_1).f0) == 1) != t214) = true then (some false) else (if ((((rd_T33 t207 x9_1).f0) == 2) != t215) = true then (some false) else (if ((rd_T33 t207 x9_1).f0) = 2 then (if ((rd_T33 t207 x9_1).f2) < 0 then (some false) else (if ((rd_T33 t207 x9_1).f2) > 65535 then (some false) else (proofmarklaw01_LexPlaces.l0 kj9 t205 t206 t207 t208 (wrap64 (((rd_T33 t207 x9_1).f3) + (((rd_T33 t207 x9_1).f1).size : Int))) (wrap64 (x9_1 + 1))))) else (if ((rd_T33 t207 x9_1).f2) = 0 then (if ((rd_T33 t207 x9_1).f2) < 0 then (some false) else (if ((rd_T33 t207 x9_1).f2) > 65535 then (some false) else (proofmarklaw01_LexPlaces.l0 kj9 t205 t206 t207 t208 (wrap64 (((rd_T33 t207 x9_1).f3) + (((rd_T33 t207 x9_1).f1).size : Int))) (wrap64 (x9_1 + 1))))) else (some false)))))) = some r := H
                  have A27 := Aside0.mk A270
                  clear A270
                  replace H := Option.bind_eq_some_iff.mp H
                  obtain ⟨t215, A290, H⟩ := H
                  replace H : (if ((((rd_T33 t207 x9_1).f0) == 1) != t214) = true then (some false) else (if ((((rd_T33 t207 x9_1).f0) == 2) != t215) = true then (some false) else (if ((rd_T33 t207 x9_1).f0) = 2 then (if ((rd_T33 t207 x9_1).f2) < 0 then (some false) else (if ((rd_T33 t207 x9_1).f2) > 65535 then (some false) else (proofmarklaw01_LexPlaces.l0 kj9 t205 t206 t207 t208 (wrap64 (((rd_T33 t207 x9_1).f3) + (((rd_T33 t207 x9_1).f1).size : Int))) (wrap64 (x9_1 + 1))))) else (if ((rd_T33 t207 x9_1).f2) = 0 then (if ((rd_T33 t207 x9_1).f2) < 0 then (some false) else (if ((rd_T33 t207 x9_1).f2) > 65535 then (some false) else (proofmarklaw01_LexPlaces.l0 kj9 t205 t206 t207 t208 (wrap64 (((rd_T33 t207 x9_1).f3) + (((rd_T33 t207 x9_1).f1).size : Int))) (wrap64 (x9_1 + 1))))) else (some false))))) = some r := H
                  have A29 := Aside0.mk A290
                  clear A290
                  by_cases c30 : ((((rd_T33 t207 x9_1).f0) == 1) != t214) = true
                  · rw [if_pos c30] at H
                    have c30b0 : ((((rd_T33 t207 x9_1).f0) == 1) != t214) = true := c30
                    (try (have c30b1 : decide ((((rd_T33 t207 x9_1).f0) == 1) = t214) = false := by simpa using c30))
                    (try (have c30b2 : ((((rd_T33 t207 x9_1).f0) == 1) == t214) = false := by simpa using c30))
                    (try (have c30b3 : ¬ ((((rd_T33 t207 x9_1).f0) == 1) = t214) := by simpa using c30))
                    clear c30
                    obtain rfl := Option.some.inj H
                    have hcz31_0 : wc.cell? ⟨gb213, 0, none⟩ = some (.int .i64 ((rd_T33 t207 x9_1).f0)) := (blk_cell BK213.out 0).trans rfl
                    have hcz31_1 : wc.cell? ⟨gb213, 1, none⟩ = some (.string ((rd_T33 t207 x9_1).f1)) := (blk_cell BK213.out 1).trans rfl
                    have hcz31_2 : wc.cell? ⟨gb213, 2, none⟩ = some (.int .i64 ((rd_T33 t207 x9_1).f2)) := (blk_cell BK213.out 2).trans rfl
                    have hcz31_3 : wc.cell? ⟨gb213, 3, none⟩ = some (.int .i64 ((rd_T33 t207 x9_1).f3)) := (blk_cell BK213.out 3).trans rfl
                    have hfz31_0 := blk_frozen BK213.out 0
                    have hfz31_1 := blk_frozen BK213.out 1
                    have hfz31_2 := blk_frozen BK213.out 2
                    have hfz31_3 := blk_frozen BK213.out 3
                    have p26 : 0 ≤ (0 : Int) := (by omega)
                    have q26 : 0 < ((rd_T33 t207 x9_1).f1).size := (by have : (0 : Int) < (((rd_T33 t207 x9_1).f1).size : Int) := of_decide_eq_true (by first | (with_reducible assumption) | assumption); omega)
                    have hx26 : ∀ h : 0 < ((rd_T33 t207 x9_1).f1).size, ((((rd_T33 t207 x9_1).f1)[0]'h).toNat : Int) = bt ((rd_T33 t207 x9_1).f1) 0 := bt_at ((rd_T33 t207 x9_1).f1) 0
                    clear p26
                    have qi26 : (0 < (((rd_T33 t207 x9_1).f1).size : Int)) = True := eq_true (of_decide_eq_true (by first | (with_reducible assumption) | assumption))
                    replace q26 := eq_true q26
                    go_wp2_with (first | (go_at_call 18; (with_reducible refine (proofmarkref01_Letter.calls (bt ((rd_T33 t207 x9_1).f1) 0) t214 _ A27.out).mono ?_); rintro e w' ⟨rfl, ⟨nd, rfl⟩⟩; (try first | exact ⟨rfl, _, World.drewN_drewN _ _ _⟩ | exact ⟨rfl, _, Eq.trans (World.drewN_drewN _ _ _) (congrArg (World.drewN _) (Nat.add_assoc _ _ _))⟩); have p28 : 0 ≤ (0 : Int) := (by omega); have q28 : 0 < ((rd_T33 t207 x9_1).f1).size := (by have : (0 : Int) < (((rd_T33 t207 x9_1).f1).size : Int) := of_decide_eq_true (by first | (with_reducible assumption) | assumption); omega); have hx28 : ∀ h : 0 < ((rd_T33 t207 x9_1).f1).size, ((((rd_T33 t207 x9_1).f1)[0]'h).toNat : Int) = bt ((rd_T33 t207 x9_1).f1) 0 := bt_at ((rd_T33 t207 x9_1).f1) 0; clear p28; have qi28 : (0 < (((rd_T33 t207 x9_1).f1).size : Int)) = True := eq_true (of_decide_eq_true (by first | (with_reducible assumption) | assumption)); replace q28 := eq_true q28) | (go_at_call 19; (with_reducible refine (proofmarkref01_Digit.calls (bt ((rd_T33 t207 x9_1).f1) 0) t215 _ A29.out).mono ?_); rintro e w' ⟨rfl, ⟨nd, rfl⟩⟩; (try first | exact ⟨rfl, _, World.drewN_drewN _ _ _⟩ | exact ⟨rfl, _, Eq.trans (World.drewN_drewN _ _ _) (congrArg (World.drewN _) (Nat.add_assoc _ _ _))⟩)))
                    repeat (go_quiet (first | (go_at_call 18; (with_reducible refine (proofmarkref01_Letter.calls (bt ((rd_T33 t207 x9_1).f1) 0) t214 _ A27.out).mono ?_); rintro e w' ⟨rfl, ⟨nd, rfl⟩⟩; (try first | exact ⟨rfl, _, World.drewN_drewN _ _ _⟩ | exact ⟨rfl, _, Eq.trans (World.drewN_drewN _ _ _) (congrArg (World.drewN _) (Nat.add_assoc _ _ _))⟩); have p28 : 0 ≤ (0 : Int) := (by omega); have q28 : 0 < ((rd_T33 t207 x9_1).f1).size := (by have : (0 : Int) < (((rd_T33 t207 x9_1).f1).size : Int) := of_decide_eq_true (by first | (with_reducible assumption) | assumption); omega); have hx28 : ∀ h : 0 < ((rd_T33 t207 x9_1).f1).size, ((((rd_T33 t207 x9_1).f1)[0]'h).toNat : Int) = bt ((rd_T33 t207 x9_1).f1) 0 := bt_at ((rd_T33 t207 x9_1).f1) 0; clear p28; have qi28 : (0 < (((rd_T33 t207 x9_1).f1).size : Int)) = True := eq_true (of_decide_eq_true (by first | (with_reducible assumption) | assumption)); replace q28 := eq_true q28) | (go_at_call 19; (with_reducible refine (proofmarkref01_Digit.calls (bt ((rd_T33 t207 x9_1).f1) 0) t215 _ A29.out).mono ?_); rintro e w' ⟨rfl, ⟨nd, rfl⟩⟩; (try first | exact ⟨rfl, _, World.drewN_drewN _ _ _⟩ | exact ⟨rfl, _, Eq.trans (World.drewN_drewN _ _ _) (congrArg (World.drewN _) (Nat.add_assoc _ _ _))⟩))); try go_wp2_with (first | (go_at_call 18; (with_reducible refine (proofmarkref01_Letter.calls (bt ((rd_T33 t207 x9_1).f1) 0) t214 _ A27.out).mono ?_); rintro e w' ⟨rfl, ⟨nd, rfl⟩⟩; (try first | exact ⟨rfl, _, World.drewN_drewN _ _ _⟩ | exact ⟨rfl, _, Eq.trans (World.drewN_drewN _ _ _) (congrArg (World.drewN _) (Nat.add_assoc _ _ _))⟩); have p28 : 0 ≤ (0 : Int) := (by omega); have q28 : 0 < ((rd_T33 t207 x9_1).f1).size := (by have : (0 : Int) < (((rd_T33 t207 x9_1).f1).size : Int) := of_decide_eq_true (by first | (with_reducible assumption) | assumption); omega); have hx28 : ∀ h : 0 < ((rd_T33 t207 x9_1).f1).size, ((((rd_T33 t207 x9_1).f1)[0]'h).toNat : Int) = bt ((rd_T33 t207 x9_1).f1) 0 := bt_at ((rd_T33 t207 x9_1).f1) 0; clear p28; have qi28 : (0 < (((rd_T33 t207 x9_1).f1).size : Int)) = True := eq_true (of_decide_eq_true (by first | (with_reducible assumption) | assumption)); replace q28 := eq_true q28) | (go_at_call 19; (with_reducible refine (proofmarkref01_Digit.calls (bt ((rd_T33 t207 x9_1).f1) 0) t215 _ A29.out).mono ?_); rintro e w' ⟨rfl, ⟨nd, rfl⟩⟩; (try first | exact ⟨rfl, _, World.drewN_drewN _ _ _⟩ | exact ⟨rfl, _, Eq.trans (World.drewN_drewN _ _ _) (congrArg (World.drewN _) (Nat.add_assoc _ _ _))⟩))))
                    go_ret
                    exact ⟨by first | rfl | (simp [errW_none, errW_some] <;> rfl) | (simp [*, errW_none, errW_some] <;> rfl), by repeat (first | (with_reducible first | exact HB.out | apply below_alloc | apply pw_below_drewN | apply below_drew1 | refine below_set ?_ GE213.out) | exact HB.out)⟩
                  · rw [if_neg c30] at H
                    have c30b0 : ((((rd_T33 t207 x9_1).f0) == 1) != t214) = false := by simpa using c30
                    (try (have c30b1 : decide ((((rd_T33 t207 x9_1).f0) == 1) = t214) = true := by simpa using c30))
                    (try (have c30b2 : ((((rd_T33 t207 x9_1).f0) == 1) == t214) = true := by simpa using c30))
                    clear c30
                    by_cases c32 : ((((rd_T33 t207 x9_1).f0) == 2) != t215) = true
                    · rw [if_pos c32] at H
                      have c32b0 : ((((rd_T33 t207 x9_1).f0) == 2) != t215) = true := c32
                      (try (have c32b1 : decide ((((rd_T33 t207 x9_1).f0) == 2) = t215) = false := by simpa using c32))
                      (try (have c32b2 : ((((rd_T33 t207 x9_1).f0) == 2) == t215) = false := by simpa using c32))
                      (try (have c32b3 : ¬ ((((rd_T33 t207 x9_1).f0) == 2) = t215) := by simpa using c32))
                      clear c32
                      obtain rfl := Option.some.inj H
                      have hcz33_0 : wc.cell? ⟨gb213, 0, none⟩ = some (.int .i64 ((rd_T33 t207 x9_1).f0)) := (blk_cell BK213.out 0).trans rfl
                      have hcz33_1 : wc.cell? ⟨gb213, 1, none⟩ = some (.string ((rd_T33 t207 x9_1).f1)) := (blk_cell BK213.out 1).trans rfl
                      have hcz33_2 : wc.cell? ⟨gb213, 2, none⟩ = some (.int .i64 ((rd_T33 t207 x9_1).f2)) := (blk_cell BK213.out 2).trans rfl
                      have hcz33_3 : wc.cell? ⟨gb213, 3, none⟩ = some (.int .i64 ((rd_T33 t207 x9_1).f3)) := (blk_cell BK213.out 3).trans rfl
                      have hfz33_0 := blk_frozen BK213.out 0
                      have hfz33_1 := blk_frozen BK213.out 1
                      have hfz33_2 := blk_frozen BK213.out 2
                      have hfz33_3 := blk_frozen BK213.out 3
                      have p26 : 0 ≤ (0 : Int) := (by omega)
                      have q26 : 0 < ((rd_T33 t207 x9_1).f1).size := (by have : (0 : Int) < (((rd_T33 t207 x9_1).f1).size : Int) := of_decide_eq_true (by first | (with_reducible assumption) | assumption); omega)
                      have hx26 : ∀ h : 0 < ((rd_T33 t207 x9_1).f1).size, ((((rd_T33 t207 x9_1).f1)[0]'h).toNat : Int) = bt ((rd_T33 t207 x9_1).f1) 0 := bt_at ((rd_T33 t207 x9_1).f1) 0
                      clear p26
                      have qi26 : (0 < (((rd_T33 t207 x9_1).f1).size : Int)) = True := eq_true (of_decide_eq_true (by first | (with_reducible assumption) | assumption))
                      replace q26 := eq_true q26
                      go_wp2_with (first | (go_at_call 18; (with_reducible refine (proofmarkref01_Letter.calls (bt ((rd_T33 t207 x9_1).f1) 0) t214 _ A27.out).mono ?_); rintro e w' ⟨rfl, ⟨nd, rfl⟩⟩; (try first | exact ⟨rfl, _, World.drewN_drewN _ _ _⟩ | exact ⟨rfl, _, Eq.trans (World.drewN_drewN _ _ _) (congrArg (World.drewN _) (Nat.add_assoc _ _ _))⟩); have p28 : 0 ≤ (0 : Int) := (by omega); have q28 : 0 < ((rd_T33 t207 x9_1).f1).size := (by have : (0 : Int) < (((rd_T33 t207 x9_1).f1).size : Int) := of_decide_eq_true (by first | (with_reducible assumption) | assumption); omega); have hx28 : ∀ h : 0 < ((rd_T33 t207 x9_1).f1).size, ((((rd_T33 t207 x9_1).f1)[0]'h).toNat : Int) = bt ((rd_T33 t207 x9_1).f1) 0 := bt_at ((rd_T33 t207 x9_1).f1) 0; clear p28; have qi28 : (0 < (((rd_T33 t207 x9_1).f1).size : Int)) = True := eq_true (of_decide_eq_true (by first | (with_reducible assumption) | assumption)); replace q28 := eq_true q28) | (go_at_call 19; (with_reducible refine (proofmarkref01_Digit.calls (bt ((rd_T33 t207 x9_1).f1) 0) t215 _ A29.out).mono ?_); rintro e w' ⟨rfl, ⟨nd, rfl⟩⟩; (try first | exact ⟨rfl, _, World.drewN_drewN _ _ _⟩ | exact ⟨rfl, _, Eq.trans (World.drewN_drewN _ _ _) (congrArg (World.drewN _) (Nat.add_assoc _ _ _))⟩)))
                      repeat (go_quiet (first | (go_at_call 18; (with_reducible refine (proofmarkref01_Letter.calls (bt ((rd_T33 t207 x9_1).f1) 0) t214 _ A27.out).mono ?_); rintro e w' ⟨rfl, ⟨nd, rfl⟩⟩; (try first | exact ⟨rfl, _, World.drewN_drewN _ _ _⟩ | exact ⟨rfl, _, Eq.trans (World.drewN_drewN _ _ _) (congrArg (World.drewN _) (Nat.add_assoc _ _ _))⟩); have p28 : 0 ≤ (0 : Int) := (by omega); have q28 : 0 < ((rd_T33 t207 x9_1).f1).size := (by have : (0 : Int) < (((rd_T33 t207 x9_1).f1).size : Int) := of_decide_eq_true (by first | (with_reducible assumption) | assumption); omega); have hx28 : ∀ h : 0 < ((rd_T33 t207 x9_1).f1).size, ((((rd_T33 t207 x9_1).f1)[0]'h).toNat : Int) = bt ((rd_T33 t207 x9_1).f1) 0 := bt_at ((rd_T33 t207 x9_1).f1) 0; clear p28; have qi28 : (0 < (((rd_T33 t207 x9_1).f1).size : Int)) = True := eq_true (of_decide_eq_true (by first | (with_reducible assumption) | assumption)); replace q28 := eq_true q28) | (go_at_call 19; (with_reducible refine (proofmarkref01_Digit.calls (bt ((rd_T33 t207 x9_1).f1) 0) t215 _ A29.out).mono ?_); rintro e w' ⟨rfl, ⟨nd, rfl⟩⟩; (try first | exact ⟨rfl, _, World.drewN_drewN _ _ _⟩ | exact ⟨rfl, _, Eq.trans (World.drewN_drewN _ _ _) (congrArg (World.drewN _) (Nat.add_assoc _ _ _))⟩))); try go_wp2_with (first | (go_at_call 18; (with_reducible refine (proofmarkref01_Letter.calls (bt ((rd_T33 t207 x9_1).f1) 0) t214 _ A27.out).mono ?_); rintro e w' ⟨rfl, ⟨nd, rfl⟩⟩; (try first | exact ⟨rfl, _, World.drewN_drewN _ _ _⟩ | exact ⟨rfl, _, Eq.trans (World.drewN_drewN _ _ _) (congrArg (World.drewN _) (Nat.add_assoc _ _ _))⟩); have p28 : 0 ≤ (0 : Int) := (by omega); have q28 : 0 < ((rd_T33 t207 x9_1).f1).size := (by have : (0 : Int) < (((rd_T33 t207 x9_1).f1).size : Int) := of_decide_eq_true (by first | (with_reducible assumption) | assumption); omega); have hx28 : ∀ h : 0 < ((rd_T33 t207 x9_1).f1).size, ((((rd_T33 t207 x9_1).f1)[0]'h).toNat : Int) = bt ((rd_T33 t207 x9_1).f1) 0 := bt_at ((rd_T33 t207 x9_1).f1) 0; clear p28; have qi28 : (0 < (((rd_T33 t207 x9_1).f1).size : Int)) = True := eq_true (of_decide_eq_true (by first | (with_reducible assumption) | assumption)); replace q28 := eq_true q28) | (go_at_call 19; (with_reducible refine (proofmarkref01_Digit.calls (bt ((rd_T33 t207 x9_1).f1) 0) t215 _ A29.out).mono ?_); rintro e w' ⟨rfl, ⟨nd, rfl⟩⟩; (try first | exact ⟨rfl, _, World.drewN_drewN _ _ _⟩ | exact ⟨rfl, _, Eq.trans (World.drewN_drewN _ _ _) (congrArg (World.drewN _) (Nat.add_assoc _ _ _))⟩))))
                      go_ret
                      exact ⟨by first | rfl | (simp [errW_none, errW_some] <;> rfl) | (simp [*, errW_none, errW_some] <;> rfl), by repeat (first | (with_reducible first | exact HB.out | apply below_alloc | apply pw_below_drewN | apply below_drew1 | refine below_set ?_ GE213.out) | exact HB.out)⟩
                    · rw [if_neg c32] at H
                      have c32b0 : ((((rd_T33 t207 x9_1).f0) == 2) != t215) = false := by simpa using c32
                      (try (have c32b1 : decide ((((rd_T33 t207 x9_1).f0) == 2) = t215) = true := by simpa using c32))
                      (try (have c32b2 : ((((rd_T33 t207 x9_1).f0) == 2) == t215) = true := by simpa using c32))
                      clear c32
                      by_cases c34 : ((rd_T33 t207 x9_1).f0) = 2
                      · rw [if_pos c34] at H
                        have c34b0 : (((rd_T33 t207 x9_1).f0) == 2) = true := beq_iff_eq.mpr c34
                        have zDig : t215 = true := by have z_ := c32b2; rw [c34b0] at z_; simpa using z_
                        have c34b1 : (((rd_T33 t207 x9_1).f0) != 2) = false := bne_eq_false_iff_eq.mpr c34
                        clear c34
                        by_cases c35 : ((rd_T33 t207 x9_1).f2) < 0
                        · rw [if_pos c35] at H
                          have c35b0 : decide (((rd_T33 t207 x9_1).f2) < 0) = true := decide_eq_true c35
                          clear c35
                          obtain rfl := Option.some.inj H
                          have hcz36_0 : wc.cell? ⟨gb213, 0, none⟩ = some (.int .i64 ((rd_T33 t207 x9_1).f0)) := (blk_cell BK213.out 0).trans rfl
                          have hcz36_1 : wc.cell? ⟨gb213, 1, none⟩ = some (.string ((rd_T33 t207 x9_1).f1)) := (blk_cell BK213.out 1).trans rfl
                          have hcz36_2 : wc.cell? ⟨gb213, 2, none⟩ = some (.int .i64 ((rd_T33 t207 x9_1).f2)) := (blk_cell BK213.out 2).trans rfl
                          have hcz36_3 : wc.cell? ⟨gb213, 3, none⟩ = some (.int .i64 ((rd_T33 t207 x9_1).f3)) := (blk_cell BK213.out 3).trans rfl
                          have hfz36_0 := blk_frozen BK213.out 0
                          have hfz36_1 := blk_frozen BK213.out 1
                          have hfz36_2 := blk_frozen BK213.out 2
                          have hfz36_3 := blk_frozen BK213.out 3
                          have p26 : 0 ≤ (0 : Int) := (by omega)
                          have q26 : 0 < ((rd_T33 t207 x9_1).f1).size := (by have : (0 : Int) < (((rd_T33 t207 x9_1).f1).size : Int) := of_decide_eq_true (by first | (with_reducible assumption) | assumption); omega)
                          have hx26 : ∀ h : 0 < ((rd_T33 t207 x9_1).f1).size, ((((rd_T33 t207 x9_1).f1)[0]'h).toNat : Int) = bt ((rd_T33 t207 x9_1).f1) 0 := bt_at ((rd_T33 t207 x9_1).f1) 0
                          clear p26
                          have qi26 : (0 < (((rd_T33 t207 x9_1).f1).size : Int)) = True := eq_true (of_decide_eq_true (by first | (with_reducible assumption) | assumption))
                          replace q26 := eq_true q26
                          go_wp2_with (first | (go_at_call 18; (with_reducible refine (proofmarkref01_Letter.calls (bt ((rd_T33 t207 x9_1).f1) 0) t214 _ A27.out).mono ?_); rintro e w' ⟨rfl, ⟨nd, rfl⟩⟩; (try first | exact ⟨rfl, _, World.drewN_drewN _ _ _⟩ | exact ⟨rfl, _, Eq.trans (World.drewN_drewN _ _ _) (congrArg (World.drewN _) (Nat.add_assoc _ _ _))⟩); have p28 : 0 ≤ (0 : Int) := (by omega); have q28 : 0 < ((rd_T33 t207 x9_1).f1).size := (by have : (0 : Int) < (((rd_T33 t207 x9_1).f1).size : Int) := of_decide_eq_true (by first | (with_reducible assumption) | assumption); omega); have hx28 : ∀ h : 0 < ((rd_T33 t207 x9_1).f1).size, ((((rd_T33 t207 x9_1).f1)[0]'h).toNat : Int) = bt ((rd_T33 t207 x9_1).f1) 0 := bt_at ((rd_T33 t207 x9_1).f1) 0; clear p28; have qi28 : (0 < (((rd_T33 t207 x9_1).f1).size : Int)) = True := eq_true (of_decide_eq_true (by first | (with_reducible assumption) | assumption)); replace q28 := eq_true q28) | (go_at_call 19; (with_reducible refine (proofmarkref01_Digit.calls (bt ((rd_T33 t207 x9_1).f1) 0) t215 _ A29.out).mono ?_); rintro e w' ⟨rfl, ⟨nd, rfl⟩⟩; (try first | exact ⟨rfl, _, World.drewN_drewN _ _ _⟩ | exact ⟨rfl, _, Eq.trans (World.drewN_drewN _ _ _) (congrArg (World.drewN _) (Nat.add_assoc _ _ _))⟩)))
                          repeat (go_quiet (first | (go_at_call 18; (with_reducible refine (proofmarkref01_Letter.calls (bt ((rd_T33 t207 x9_1).f1) 0) t214 _ A27.out).mono ?_); rintro e w' ⟨rfl, ⟨nd, rfl⟩⟩; (try first | exact ⟨rfl, _, World.drewN_drewN _ _ _⟩ | exact ⟨rfl, _, Eq.trans (World.drewN_drewN _ _ _) (congrArg (World.drewN _) (Nat.add_assoc _ _ _))⟩); have p28 : 0 ≤ (0 : Int) := (by omega); have q28 : 0 < ((rd_T33 t207 x9_1).f1).size := (by have : (0 : Int) < (((rd_T33 t207 x9_1).f1).size : Int) := of_decide_eq_true (by first | (with_reducible assumption) | assumption); omega); have hx28 : ∀ h : 0 < ((rd_T33 t207 x9_1).f1).size, ((((rd_T33 t207 x9_1).f1)[0]'h).toNat : Int) = bt ((rd_T33 t207 x9_1).f1) 0 := bt_at ((rd_T33 t207 x9_1).f1) 0; clear p28; have qi28 : (0 < (((rd_T33 t207 x9_1).f1).size : Int)) = True := eq_true (of_decide_eq_true (by first | (with_reducible assumption) | assumption)); replace q28 := eq_true q28) | (go_at_call 19; (with_reducible refine (proofmarkref01_Digit.calls (bt ((rd_T33 t207 x9_1).f1) 0) t215 _ A29.out).mono ?_); rintro e w' ⟨rfl, ⟨nd, rfl⟩⟩; (try first | exact ⟨rfl, _, World.drewN_drewN _ _ _⟩ | exact ⟨rfl, _, Eq.trans (World.drewN_drewN _ _ _) (congrArg (World.drewN _) (Nat.add_assoc _ _ _))⟩))); try go_wp2_with (first | (go_at_call 18; (with_reducible refine (proofmarkref01_Letter.calls (bt ((rd_T33 t207 x9_1).f1) 0) t214 _ A27.out).mono ?_); rintro e w' ⟨rfl, ⟨nd, rfl⟩⟩; (try first | exact ⟨rfl, _, World.drewN_drewN _ _ _⟩ | exact ⟨rfl, _, Eq.trans (World.drewN_drewN _ _ _) (congrArg (World.drewN _) (Nat.add_assoc _ _ _))⟩); have p28 : 0 ≤ (0 : Int) := (by omega); have q28 : 0 < ((rd_T33 t207 x9_1).f1).size := (by have : (0 : Int) < (((rd_T33 t207 x9_1).f1).size : Int) := of_decide_eq_true (by first | (with_reducible assumption) | assumption); omega); have hx28 : ∀ h : 0 < ((rd_T33 t207 x9_1).f1).size, ((((rd_T33 t207 x9_1).f1)[0]'h).toNat : Int) = bt ((rd_T33 t207 x9_1).f1) 0 := bt_at ((rd_T33 t207 x9_1).f1) 0; clear p28; have qi28 : (0 < (((rd_T33 t207 x9_1).f1).size : Int)) = True := eq_true (of_decide_eq_true (by first | (with_reducible assumption) | assumption)); replace q28 := eq_true q28) | (go_at_call 19; (with_reducible refine (proofmarkref01_Digit.calls (bt ((rd_T33 t207 x9_1).f1) 0) t215 _ A29.out).mono ?_); rintro e w' ⟨rfl, ⟨nd, rfl⟩⟩; (try first | exact ⟨rfl, _, World.drewN_drewN _ _ _⟩ | exact ⟨rfl, _, Eq.trans (World.drewN_drewN _ _ _) (congrArg (World.drewN _) (Nat.add_assoc _ _ _))⟩))))
                          go_ret
                          exact ⟨by first | rfl | (simp [errW_none, errW_some] <;> rfl) | (simp [*, errW_none, errW_some] <;> rfl), by repeat (first | (with_reducible first | exact HB.out | apply below_alloc | apply pw_below_drewN | apply below_drew1 | refine below_set ?_ GE213.out) | exact HB.out)⟩
                        · rw [if_neg c35] at H
                          have c35b0 : decide (((rd_T33 t207 x9_1).f2) < 0) = false := decide_eq_false c35
                          clear c35
                          by_cases c37 : ((rd_T33 t207 x9_1).f2) > 65535
                          · rw [if_pos c37] at H
                            have c37b0 : decide (65535 < ((rd_T33 t207 x9_1).f2)) = true := decide_eq_true c37
                            clear c37
                            obtain rfl := Option.some.inj H
                            have hcz38_0 : wc.cell? ⟨gb213, 0, none⟩ = some (.int .i64 ((rd_T33 t207 x9_1).f0)) := (blk_cell BK213.out 0).trans rfl
                            have hcz38_1 : wc.cell? ⟨gb213, 1, none⟩ = some (.string ((rd_T33 t207 x9_1).f1)) := (blk_cell BK213.out 1).trans rfl
                            have hcz38_2 : wc.cell? ⟨gb213, 2, none⟩ = some (.int .i64 ((rd_T33 t207 x9_1).f2)) := (blk_cell BK213.out 2).trans rfl
                            have hcz38_3 : wc.cell? ⟨gb213, 3, none⟩ = some (.int .i64 ((rd_T33 t207 x9_1).f3)) := (blk_cell BK213.out 3).trans rfl
                            have hfz38_0 := blk_frozen BK213.out 0
                            have hfz38_1 := blk_frozen BK213.out 1
                            have hfz38_2 := blk_frozen BK213.out 2
                            have hfz38_3 := blk_frozen BK213.out 3
                            have p26 : 0 ≤ (0 : Int) := (by omega)
                            have q26 : 0 < ((rd_T33 t207 x9_1).f1).size := (by have : (0 : Int) < (((rd_T33 t207 x9_1).f1).size : Int) := of_decide_eq_true (by first | (with_reducible assumption) | assumption); omega)
                            have hx26 : ∀ h : 0 < ((rd_T33 t207 x9_1).f1).size, ((((rd_T33 t207 x9_1).f1)[0]'h).toNat : Int) = bt ((rd_T33 t207 x9_1).f1) 0 := bt_at ((rd_T33 t207 x9_1).f1) 0
                            clear p26
                            have qi26 : (0 < (((rd_T33 t207 x9_1).f1).size : Int)) = True := eq_true (of_decide_eq_true (by first | (with_reducible assumption) | assumption))
                            replace q26 := eq_true q26
                            go_wp2_with (first | (go_at_call 18; (with_reducible refine (proofmarkref01_Letter.calls (bt ((rd_T33 t207 x9_1).f1) 0) t214 _ A27.out).mono ?_); rintro e w' ⟨rfl, ⟨nd, rfl⟩⟩; (try first | exact ⟨rfl, _, World.drewN_drewN _ _ _⟩ | exact ⟨rfl, _, Eq.trans (World.drewN_drewN _ _ _) (congrArg (World.drewN _) (Nat.add_assoc _ _ _))⟩); have p28 : 0 ≤ (0 : Int) := (by omega); have q28 : 0 < ((rd_T33 t207 x9_1).f1).size := (by have : (0 : Int) < (((rd_T33 t207 x9_1).f1).size : Int) := of_decide_eq_true (by first | (with_reducible assumption) | assumption); omega); have hx28 : ∀ h : 0 < ((rd_T33 t207 x9_1).f1).size, ((((rd_T33 t207 x9_1).f1)[0]'h).toNat : Int) = bt ((rd_T33 t207 x9_1).f1) 0 := bt_at ((rd_T33 t207 x9_1).f1) 0; clear p28; have qi28 : (0 < (((rd_T33 t207 x9_1).f1).size : Int)) = True := eq_true (of_decide_eq_true (by first | (with_reducible assumption) | assumption)); replace q28 := eq_true q28) | (go_at_call 19; (with_reducible refine (proofmarkref01_Digit.calls (bt ((rd_T33 t207 x9_1).f1) 0) t215 _ A29.out).mono ?_); rintro e w' ⟨rfl, ⟨nd, rfl⟩⟩; (try first | exact ⟨rfl, _, World.drewN_drewN _ _ _⟩ | exact ⟨rfl, _, Eq.trans (World.drewN_drewN _ _ _) (congrArg (World.drewN _) (Nat.add_assoc _ _ _))⟩)))
                            repeat (go_quiet (first | (go_at_call 18; (with_reducible refine (proofmarkref01_Letter.calls (bt ((rd_T33 t207 x9_1).f1) 0) t214 _ A27.out).mono ?_); rintro e w' ⟨rfl, ⟨nd, rfl⟩⟩; (try first | exact ⟨rfl, _, World.drewN_drewN _ _ _⟩ | exact ⟨rfl, _, Eq.trans (World.drewN_drewN _ _ _) (congrArg (World.drewN _) (Nat.add_assoc _ _ _))⟩); have p28 : 0 ≤ (0 : Int) := (by omega); have q28 : 0 < ((rd_T33 t207 x9_1).f1).size := (by have : (0 : Int) < (((rd_T33 t207 x9_1).f1).size : Int) := of_decide_eq_true (by first | (with_reducible assumption) | assumption); omega); have hx28 : ∀ h : 0 < ((rd_T33 t207 x9_1).f1).size, ((((rd_T33 t207 x9_1).f1)[0]'h).toNat : Int) = bt ((rd_T33 t207 x9_1).f1) 0 := bt_at ((rd_T33 t207 x9_1).f1) 0; clear p28; have qi28 : (0 < (((rd_T33 t207 x9_1).f1).size : Int)) = True := eq_true (of_decide_eq_true (by first | (with_reducible assumption) | assumption)); replace q28 := eq_true q28) | (go_at_call 19; (with_reducible refine (proofmarkref01_Digit.calls (bt ((rd_T33 t207 x9_1).f1) 0) t215 _ A29.out).mono ?_); rintro e w' ⟨rfl, ⟨nd, rfl⟩⟩; (try first | exact ⟨rfl, _, World.drewN_drewN _ _ _⟩ | exact ⟨rfl, _, Eq.trans (World.drewN_drewN _ _ _) (congrArg (World.drewN _) (Nat.add_assoc _ _ _))⟩))); try go_wp2_with (first | (go_at_call 18; (with_reducible refine (proofmarkref01_Letter.calls (bt ((rd_T33 t207 x9_1).f1) 0) t214 _ A27.out).mono ?_); rintro e w' ⟨rfl, ⟨nd, rfl⟩⟩; (try first | exact ⟨rfl, _, World.drewN_drewN _ _ _⟩ | exact ⟨rfl, _, Eq.trans (World.drewN_drewN _ _ _) (congrArg (World.drewN _) (Nat.add_assoc _ _ _))⟩); have p28 : 0 ≤ (0 : Int) := (by omega); have q28 : 0 < ((rd_T33 t207 x9_1).f1).size := (by have : (0 : Int) < (((rd_T33 t207 x9_1).f1).size : Int) := of_decide_eq_true (by first | (with_reducible assumption) | assumption); omega); have hx28 : ∀ h : 0 < ((rd_T33 t207 x9_1).f1).size, ((((rd_T33 t207 x9_1).f1)[0]'h).toNat : Int) = bt ((rd_T33 t207 x9_1).f1) 0 := bt_at ((rd_T33 t207 x9_1).f1) 0; clear p28; have qi28 : (0 < (((rd_T33 t207 x9_1).f1).size : Int)) = True := eq_true (of_decide_eq_true (by first | (with_reducible assumption) | assumption)); replace q28 := eq_true q28) | (go_at_call 19; (with_reducible refine (proofmarkref01_Digit.calls (bt ((rd_T33 t207 x9_1).f1) 0) t215 _ A29.out).mono ?_); rintro e w' ⟨rfl, ⟨nd, rfl⟩⟩; (try first | exact ⟨rfl, _, World.drewN_drewN _ _ _⟩ | exact ⟨rfl, _, Eq.trans (World.drewN_drewN _ _ _) (congrArg (World.drewN _) (Nat.add_assoc _ _ _))⟩))))
                            go_ret
                            exact ⟨by first | rfl | (simp [errW_none, errW_some] <;> rfl) | (simp [*, errW_none, errW_some] <;> rfl), by repeat (first | (with_reducible first | exact HB.out | apply below_alloc | apply pw_below_drewN | apply below_drew1 | refine below_set ?_ GE213.out) | exact HB.out)⟩
                          · rw [if_neg c37] at H
                            have c37b0 : decide (65535 < ((rd_T33 t207 x9_1).f2)) = false := decide_eq_false c37
                            clear c37
                            have H' := Aside0.mk H
                            clear H
                            have hcz39_0 : wc.cell? ⟨gb213, 0, none⟩ = some (.int .i64 ((rd_T33 t207 x9_1).f0)) := (blk_cell BK213.out 0).trans rfl
                            have hcz39_1 : wc.cell? ⟨gb213, 1, none⟩ = some (.string ((rd_T33 t207 x9_1).f1)) := (blk_cell BK213.out 1).trans rfl
                            have hcz39_2 : wc.cell? ⟨gb213, 2, none⟩ = some (.int .i64 ((rd_T33 t207 x9_1).f2)) := (blk_cell BK213.out 2).trans rfl
                            have hcz39_3 : wc.cell? ⟨gb213, 3, none⟩ = some (.int .i64 ((rd_T33 t207 x9_1).f3)) := (blk_cell BK213.out 3).trans rfl
                            have hfz39_0 := blk_frozen BK213.out 0
                            have hfz39_1 := blk_frozen BK213.out 1
                            have hfz39_2 := blk_frozen BK213.out 2
                            have hfz39_3 := blk_frozen BK213.out 3
                            have p26 : 0 ≤ (0 : Int) := (by omega)
                            have q26 : 0 < ((rd_T33 t207 x9_1).f1).size := (by have : (0 : Int) < (((rd_T33 t207 x9_1).f1).size : Int) := of_decide_eq_true (by first | (with_reducible assumption) | assumption); omega)
                            have hx26 : ∀ h : 0 < ((rd_T33 t207 x9_1).f1).size, ((((rd_T33 t207 x9_1).f1)[0]'h).toNat : Int) = bt ((rd_T33 t207 x9_1).f1) 0 := bt_at ((rd_T33 t207 x9_1).f1) 0
                            clear p26
                            have qi26 : (0 < (((rd_T33 t207 x9_1).f1).size : Int)) = True := eq_true (of_decide_eq_true (by first | (with_reducible assumption) | assumption))
                            replace q26 := eq_true q26
                            go_wp2_with (first | (go_at_call 18; (with_reducible refine (proofmarkref01_Letter.calls (bt ((rd_T33 t207 x9_1).f1) 0) t214 _ A27.out).mono ?_); rintro e w' ⟨rfl, ⟨nd, rfl⟩⟩; (try first | exact ⟨rfl, _, World.drewN_drewN _ _ _⟩ | exact ⟨rfl, _, Eq.trans (World.drewN_drewN _ _ _) (congrArg (World.drewN _) (Nat.add_assoc _ _ _))⟩); have p28 : 0 ≤ (0 : Int) := (by omega); have q28 : 0 < ((rd_T33 t207 x9_1).f1).size := (by have : (0 : Int) < (((rd_T33 t207 x9_1).f1).size : Int) := of_decide_eq_true (by first | (with_reducible assumption) | assumption); omega); have hx28 : ∀ h : 0 < ((rd_T33 t207 x9_1).f1).size, ((((rd_T33 t207 x9_1).f1)[0]'h).toNat : Int) = bt ((rd_T33 t207 x9_1).f1) 0 := bt_at ((rd_T33 t207 x9_1).f1) 0; clear p28; have qi28 : (0 < (((rd_T33 t207 x9_1).f1).size : Int)) = True := eq_true (of_decide_eq_true (by first | (with_reducible assumption) | assumption)); replace q28 := eq_true q28) | (go_at_call 19; (with_reducible refine (proofmarkref01_Digit.calls (bt ((rd_T33 t207 x9_1).f1) 0) t215 _ A29.out).mono ?_); rintro e w' ⟨rfl, ⟨nd, rfl⟩⟩; (try first | exact ⟨rfl, _, World.drewN_drewN _ _ _⟩ | exact ⟨rfl, _, Eq.trans (World.drewN_drewN _ _ _) (congrArg (World.drewN _) (Nat.add_assoc _ _ _))⟩)))
                            repeat (go_quiet (first | (go_at_call 18; (with_reducible refine (proofmarkref01_Letter.calls (bt ((rd_T33 t207 x9_1).f1) 0) t214 _ A27.out).mono ?_); rintro e w' ⟨rfl, ⟨nd, rfl⟩⟩; (try first | exact ⟨rfl, _, World.drewN_drewN _ _ _⟩ | exact ⟨rfl, _, Eq.trans (World.drewN_drewN _ _ _) (congrArg (World.drewN _) (Nat.add_assoc _ _ _))⟩); have p28 : 0 ≤ (0 : Int) := (by omega); have q28 : 0 < ((rd_T33 t207 x9_1).f1).size := (by have : (0 : Int) < (((rd_T33 t207 x9_1).f1).size : Int) := of_decide_eq_true (by first | (with_reducible assumption) | assumption); omega); have hx28 : ∀ h : 0 < ((rd_T33 t207 x9_1).f1).size, ((((rd_T33 t207 x9_1).f1)[0]'h).toNat : Int) = bt ((rd_T33 t207 x9_1).f1) 0 := bt_at ((rd_T33 t207 x9_1).f1) 0; clear p28; have qi28 : (0 < (((rd_T33 t207 x9_1).f1).size : Int)) = True := eq_true (of_decide_eq_true (by first | (with_reducible assumption) | assumption)); replace q28 := eq_true q28) | (go_at_call 19; (with_reducible refine (proofmarkref01_Digit.calls (bt ((rd_T33 t207 x9_1).f1) 0) t215 _ A29.out).mono ?_); rintro e w' ⟨rfl, ⟨nd, rfl⟩⟩; (try first | exact ⟨rfl, _, World.drewN_drewN _ _ _⟩ | exact ⟨rfl, _, Eq.trans (World.drewN_drewN _ _ _) (congrArg (World.drewN _) (Nat.add_assoc _ _ _))⟩))); try go_wp2_with (first | (go_at_call 18; (with_reducible refine (proofmarkref01_Letter.calls (bt ((rd_T33 t207 x9_1).f1) 0) t214 _ A27.out).mono ?_); rintro e w' ⟨rfl, ⟨nd, rfl⟩⟩; (try first | exact ⟨rfl, _, World.drewN_drewN _ _ _⟩ | exact ⟨rfl, _, Eq.trans (World.drewN_drewN _ _ _) (congrArg (World.drewN _) (Nat.add_assoc _ _ _))⟩); have p28 : 0 ≤ (0 : Int) := (by omega); have q28 : 0 < ((rd_T33 t207 x9_1).f1).size := (by have : (0 : Int) < (((rd_T33 t207 x9_1).f1).size : Int) := of_decide_eq_true (by first | (with_reducible assumption) | assumption); omega); have hx28 : ∀ h : 0 < ((rd_T33 t207 x9_1).f1).size, ((((rd_T33 t207 x9_1).f1)[0]'h).toNat : Int) = bt ((rd_T33 t207 x9_1).f1) 0 := bt_at ((rd_T33 t207 x9_1).f1) 0; clear p28; have qi28 : (0 < (((rd_T33 t207 x9_1).f1).size : Int)) = True := eq_true (of_decide_eq_true (by first | (with_reducible assumption) | assumption)); replace q28 := eq_true q28) | (go_at_call 19; (with_reducible refine (proofmarkref01_Digit.calls (bt ((rd_T33 t207 x9_1).f1) 0) t215 _ A29.out).mono ?_); rintro e w' ⟨rfl, ⟨nd, rfl⟩⟩; (try first | exact ⟨rfl, _, World.drewN_drewN _ _ _⟩ | exact ⟨rfl, _, Eq.trans (World.drewN_drewN _ _ _) (congrArg (World.drewN _) (Nat.add_assoc _ _ _))⟩))))
                            go_roundg kj9
                            case measure => have := HK1.out; have := HJ9.out; omega
                            case rel => exact ⟨(wrap64 (((rd_T33 t207 x9_1).f3) + (((rd_T33 t207 x9_1).f1).size : Int))), (wrap64 (x9_1 + 1)), (by first | rfl | (simp; done) | (simp [*]; done)), (by first | rfl | (simp; done) | (simp [*]; done)), H', ⟨by have := HK1.out; have := HJ9.out; omega⟩, ⟨by (with_reducible repeat (first | apply Kd.R_alloc | apply Kd.R_drewN | apply Kd.R_drew)); exact Kd.R_mono HO_5.out (fun _ hk => trivial)⟩, ⟨by repeat (first | (with_reducible first | exact HB.out | apply below_alloc | apply pw_below_drewN | apply below_drew1 | refine below_set ?_ GE213.out) | exact HB.out)⟩⟩
                      · rw [if_neg c34] at H
                        have c34b0 : (((rd_T33 t207 x9_1).f0) == 2) = false := beq_eq_false_iff_ne.mpr c34
                        have zDig : t215 = false := by have z_ := c32b2; rw [c34b0] at z_; simpa using z_
                        have c34b1 : (((rd_T33 t207 x9_1).f0) != 2) = true := bne_iff_ne.mpr c34
                        by_cases c40 : ((rd_T33 t207 x9_1).f2) = 0
                        · rw [if_pos c40] at H
                          have c40b0 : (((rd_T33 t207 x9_1).f2) == 0) = true := beq_iff_eq.mpr c40
                          have c40b1 : (((rd_T33 t207 x9_1).f2) != 0) = false := bne_eq_false_iff_eq.mpr c40
                          clear c40
                          by_cases c41 : ((rd_T33 t207 x9_1).f2) < 0
                          · rw [if_pos c41] at H
                            have c41b0 : decide (((rd_T33 t207 x9_1).f2) < 0) = true := decide_eq_true c41
                            clear c41
                            obtain rfl := Option.some.inj H
                            have hcz42_0 : wc.cell? ⟨gb213, 0, none⟩ = some (.int .i64 ((rd_T33 t207 x9_1).f0)) := (blk_cell BK213.out 0).trans rfl
                            have hcz42_1 : wc.cell? ⟨gb213, 1, none⟩ = some (.string ((rd_T33 t207 x9_1).f1)) := (blk_cell BK213.out 1).trans rfl
                            have hcz42_2 : wc.cell? ⟨gb213, 2, none⟩ = some (.int .i64 ((rd_T33 t207 x9_1).f2)) := (blk_cell BK213.out 2).trans rfl
                            have hcz42_3 : wc.cell? ⟨gb213, 3, none⟩ = some (.int .i64 ((rd_T33 t207 x9_1).f3)) := (blk_cell BK213.out 3).trans rfl
                            have hfz42_0 := blk_frozen BK213.out 0
                            have hfz42_1 := blk_frozen BK213.out 1
                            have hfz42_2 := blk_frozen BK213.out 2
                            have hfz42_3 := blk_frozen BK213.out 3
                            have p26 : 0 ≤ (0 : Int) := (by omega)
                            have q26 : 0 < ((rd_T33 t207 x9_1).f1).size := (by have : (0 : Int) < (((rd_T33 t207 x9_1).f1).size : Int) := of_decide_eq_true (by first | (with_reducible assumption) | assumption); omega)
                            have hx26 : ∀ h : 0 < ((rd_T33 t207 x9_1).f1).size, ((((rd_T33 t207 x9_1).f1)[0]'h).toNat : Int) = bt ((rd_T33 t207 x9_1).f1) 0 := bt_at ((rd_T33 t207 x9_1).f1) 0
                            clear p26
                            have qi26 : (0 < (((rd_T33 t207 x9_1).f1).size : Int)) = True := eq_true (of_decide_eq_true (by first | (with_reducible assumption) | assumption))
                            replace q26 := eq_true q26
                            go_wp2_with (first | (go_at_call 18; (with_reducible refine (proofmarkref01_Letter.calls (bt ((rd_T33 t207 x9_1).f1) 0) t214 _ A27.out).mono ?_); rintro e w' ⟨rfl, ⟨nd, rfl⟩⟩; (try first | exact ⟨rfl, _, World.drewN_drewN _ _ _⟩ | exact ⟨rfl, _, Eq.trans (World.drewN_drewN _ _ _) (congrArg (World.drewN _) (Nat.add_assoc _ _ _))⟩); have p28 : 0 ≤ (0 : Int) := (by omega); have q28 : 0 < ((rd_T33 t207 x9_1).f1).size := (by have : (0 : Int) < (((rd_T33 t207 x9_1).f1).size : Int) := of_decide_eq_true (by first | (with_reducible assumption) | assumption); omega); have hx28 : ∀ h : 0 < ((rd_T33 t207 x9_1).f1).size, ((((rd_T33 t207 x9_1).f1)[0]'h).toNat : Int) = bt ((rd_T33 t207 x9_1).f1) 0 := bt_at ((rd_T33 t207 x9_1).f1) 0; clear p28; have qi28 : (0 < (((rd_T33 t207 x9_1).f1).size : Int)) = True := eq_true (of_decide_eq_true (by first | (with_reducible assumption) | assumption)); replace q28 := eq_true q28) | (go_at_call 19; (with_reducible refine (proofmarkref01_Digit.calls (bt ((rd_T33 t207 x9_1).f1) 0) t215 _ A29.out).mono ?_); rintro e w' ⟨rfl, ⟨nd, rfl⟩⟩; (try first | exact ⟨rfl, _, World.drewN_drewN _ _ _⟩ | exact ⟨rfl, _, Eq.trans (World.drewN_drewN _ _ _) (congrArg (World.drewN _) (Nat.add_assoc _ _ _))⟩)))
                            repeat (go_quiet (first | (go_at_call 18; (with_reducible refine (proofmarkref01_Letter.calls (bt ((rd_T33 t207 x9_1).f1) 0) t214 _ A27.out).mono ?_); rintro e w' ⟨rfl, ⟨nd, rfl⟩⟩; (try first | exact ⟨rfl, _, World.drewN_drewN _ _ _⟩ | exact ⟨rfl, _, Eq.trans (World.drewN_drewN _ _ _) (congrArg (World.drewN _) (Nat.add_assoc _ _ _))⟩); have p28 : 0 ≤ (0 : Int) := (by omega); have q28 : 0 < ((rd_T33 t207 x9_1).f1).size := (by have : (0 : Int) < (((rd_T33 t207 x9_1).f1).size : Int) := of_decide_eq_true (by first | (with_reducible assumption) | assumption); omega); have hx28 : ∀ h : 0 < ((rd_T33 t207 x9_1).f1).size, ((((rd_T33 t207 x9_1).f1)[0]'h).toNat : Int) = bt ((rd_T33 t207 x9_1).f1) 0 := bt_at ((rd_T33 t207 x9_1).f1) 0; clear p28; have qi28 : (0 < (((rd_T33 t207 x9_1).f1).size : Int)) = True := eq_true (of_decide_eq_true (by first | (with_reducible assumption) | assumption)); replace q28 := eq_true q28) | (go_at_call 19; (with_reducible refine (proofmarkref01_Digit.calls (bt ((rd_T33 t207 x9_1).f1) 0) t215 _ A29.out).mono ?_); rintro e w' ⟨rfl, ⟨nd, rfl⟩⟩; (try first | exact ⟨rfl, _, World.drewN_drewN _ _ _⟩ | exact ⟨rfl, _, Eq.trans (World.drewN_drewN _ _ _) (congrArg (World.drewN _) (Nat.add_assoc _ _ _))⟩))); try go_wp2_with (first | (go_at_call 18; (with_reducible refine (proofmarkref01_Letter.calls (bt ((rd_T33 t207 x9_1).f1) 0) t214 _ A27.out).mono ?_); rintro e w' ⟨rfl, ⟨nd, rfl⟩⟩; (try first | exact ⟨rfl, _, World.drewN_drewN _ _ _⟩ | exact ⟨rfl, _, Eq.trans (World.drewN_drewN _ _ _) (congrArg (World.drewN _) (Nat.add_assoc _ _ _))⟩); have p28 : 0 ≤ (0 : Int) := (by omega); have q28 : 0 < ((rd_T33 t207 x9_1).f1).size := (by have : (0 : Int) < (((rd_T33 t207 x9_1).f1).size : Int) := of_decide_eq_true (by first | (with_reducible assumption) | assumption); omega); have hx28 : ∀ h : 0 < ((rd_T33 t207 x9_1).f1).size, ((((rd_T33 t207 x9_1).f1)[0]'h).toNat : Int) = bt ((rd_T33 t207 x9_1).f1) 0 := bt_at ((rd_T33 t207 x9_1).f1) 0; clear p28; have qi28 : (0 < (((rd_T33 t207 x9_1).f1).size : Int)) = True := eq_true (of_decide_eq_true (by first | (with_reducible assumption) | assumption)); replace q28 := eq_true q28) | (go_at_call 19; (with_reducible refine (proofmarkref01_Digit.calls (bt ((rd_T33 t207 x9_1).f1) 0) t215 _ A29.out).mono ?_); rintro e w' ⟨rfl, ⟨nd, rfl⟩⟩; (try first | exact ⟨rfl, _, World.drewN_drewN _ _ _⟩ | exact ⟨rfl, _, Eq.trans (World.drewN_drewN _ _ _) (congrArg (World.drewN _) (Nat.add_assoc _ _ _))⟩))))
                            go_ret
                            exact ⟨by first | rfl | (simp [errW_none, errW_some] <;> rfl) | (simp [*, errW_none, errW_some] <;> rfl), by repeat (first | (with_reducible first | exact HB.out | apply below_alloc | apply pw_below_drewN | apply below_drew1 | refine below_set ?_ GE213.out) | exact HB.out)⟩
                          · rw [if_neg c41] at H
                            have c41b0 : decide (((rd_T33 t207 x9_1).f2) < 0) = false := decide_eq_false c41
                            clear c41
                            by_cases c43 : ((rd_T33 t207 x9_1).f2) > 65535
                            · rw [if_pos c43] at H
                              have c43b0 : decide (65535 < ((rd_T33 t207 x9_1).f2)) = true := decide_eq_true c43
                              clear c43
                              obtain rfl := Option.some.inj H
                              have hcz44_0 : wc.cell? ⟨gb213, 0, none⟩ = some (.int .i64 ((rd_T33 t207 x9_1).f0)) := (blk_cell BK213.out 0).trans rfl
                              have hcz44_1 : wc.cell? ⟨gb213, 1, none⟩ = some (.string ((rd_T33 t207 x9_1).f1)) := (blk_cell BK213.out 1).trans rfl
                              have hcz44_2 : wc.cell? ⟨gb213, 2, none⟩ = some (.int .i64 ((rd_T33 t207 x9_1).f2)) := (blk_cell BK213.out 2).trans rfl
                              have hcz44_3 : wc.cell? ⟨gb213, 3, none⟩ = some (.int .i64 ((rd_T33 t207 x9_1).f3)) := (blk_cell BK213.out 3).trans rfl
                              have hfz44_0 := blk_frozen BK213.out 0
                              have hfz44_1 := blk_frozen BK213.out 1
                              have hfz44_2 := blk_frozen BK213.out 2
                              have hfz44_3 := blk_frozen BK213.out 3
                              have p26 : 0 ≤ (0 : Int) := (by omega)
                              have q26 : 0 < ((rd_T33 t207 x9_1).f1).size := (by have : (0 : Int) < (((rd_T33 t207 x9_1).f1).size : Int) := of_decide_eq_true (by first | (with_reducible assumption) | assumption); omega)
                              have hx26 : ∀ h : 0 < ((rd_T33 t207 x9_1).f1).size, ((((rd_T33 t207 x9_1).f1)[0]'h).toNat : Int) = bt ((rd_T33 t207 x9_1).f1) 0 := bt_at ((rd_T33 t207 x9_1).f1) 0
                              clear p26
                              have qi26 : (0 < (((rd_T33 t207 x9_1).f1).size : Int)) = True := eq_true (of_decide_eq_true (by first | (with_reducible assumption) | assumption))
                              replace q26 := eq_true q26
                              go_wp2_with (first | (go_at_call 18; (with_reducible refine (proofmarkref01_Letter.calls (bt ((rd_T33 t207 x9_1).f1) 0) t214 _ A27.out).mono ?_); rintro e w' ⟨rfl, ⟨nd, rfl⟩⟩; (try first | exact ⟨rfl, _, World.drewN_drewN _ _ _⟩ | exact ⟨rfl, _, Eq.trans (World.drewN_drewN _ _ _) (congrArg (World.drewN _) (Nat.add_assoc _ _ _))⟩); have p28 : 0 ≤ (0 : Int) := (by omega); have q28 : 0 < ((rd_T33 t207 x9_1).f1).size := (by have : (0 : Int) < (((rd_T33 t207 x9_1).f1).size : Int) := of_decide_eq_true (by first | (with_reducible assumption) | assumption); omega); have hx28 : ∀ h : 0 < ((rd_T33 t207 x9_1).f1).size, ((((rd_T33 t207 x9_1).f1)[0]'h).toNat : Int) = bt ((rd_T33 t207 x9_1).f1) 0 := bt_at ((rd_T33 t207 x9_1).f1) 0; clear p28; have qi28 : (0 < (((rd_T33 t207 x9_1).f1).size : Int)) = True := eq_true (of_decide_eq_true (by first | (with_reducible assumption) | assumption)); replace q28 := eq_true q28) | (go_at_call 19; (with_reducible refine (proofmarkref01_Digit.calls (bt ((rd_T33 t207 x9_1).f1) 0) t215 _ A29.out).mono ?_); rintro e w' ⟨rfl, ⟨nd, rfl⟩⟩; (try first | exact ⟨rfl, _, World.drewN_drewN _ _ _⟩ | exact ⟨rfl, _, Eq.trans (World.drewN_drewN _ _ _) (congrArg (World.drewN _) (Nat.add_assoc _ _ _))⟩)))
                              repeat (go_quiet (first | (go_at_call 18; (with_reducible refine (proofmarkref01_Letter.calls (bt ((rd_T33 t207 x9_1).f1) 0) t214 _ A27.out).mono ?_); rintro e w' ⟨rfl, ⟨nd, rfl⟩⟩; (try first | exact ⟨rfl, _, World.drewN_drewN _ _ _⟩ | exact ⟨rfl, _, Eq.trans (World.drewN_drewN _ _ _) (congrArg (World.drewN _) (Nat.add_assoc _ _ _))⟩); have p28 : 0 ≤ (0 : Int) := (by omega); have q28 : 0 < ((rd_T33 t207 x9_1).f1).size := (by have : (0 : Int) < (((rd_T33 t207 x9_1).f1).size : Int) := of_decide_eq_true (by first | (with_reducible assumption) | assumption); omega); have hx28 : ∀ h : 0 < ((rd_T33 t207 x9_1).f1).size, ((((rd_T33 t207 x9_1).f1)[0]'h).toNat : Int) = bt ((rd_T33 t207 x9_1).f1) 0 := bt_at ((rd_T33 t207 x9_1).f1) 0; clear p28; have qi28 : (0 < (((rd_T33 t207 x9_1).f1).size : Int)) = True := eq_true (of_decide_eq_true (by first | (with_reducible assumption) | assumption)); replace q28 := eq_true q28) | (go_at_call 19; (with_reducible refine (proofmarkref01_Digit.calls (bt ((rd_T33 t207 x9_1).f1) 0) t215 _ A29.out).mono ?_); rintro e w' ⟨rfl, ⟨nd, rfl⟩⟩; (try first | exact ⟨rfl, _, World.drewN_drewN _ _ _⟩ | exact ⟨rfl, _, Eq.trans (World.drewN_drewN _ _ _) (congrArg (World.drewN _) (Nat.add_assoc _ _ _))⟩))); try go_wp2_with (first | (go_at_call 18; (with_reducible refine (proofmarkref01_Letter.calls (bt ((rd_T33 t207 x9_1).f1) 0) t214 _ A27.out).mono ?_); rintro e w' ⟨rfl, ⟨nd, rfl⟩⟩; (try first | exact ⟨rfl, _, World.drewN_drewN _ _ _⟩ | exact ⟨rfl, _, Eq.trans (World.drewN_drewN _ _ _) (congrArg (World.drewN _) (Nat.add_assoc _ _ _))⟩); have p28 : 0 ≤ (0 : Int) := (by omega); have q28 : 0 < ((rd_T33 t207 x9_1).f1).size := (by have : (0 : Int) < (((rd_T33 t207 x9_1).f1).size : Int) := of_decide_eq_true (by first | (with_reducible assumption) | assumption); omega); have hx28 : ∀ h : 0 < ((rd_T33 t207 x9_1).f1).size, ((((rd_T33 t207 x9_1).f1)[0]'h).toNat : Int) = bt ((rd_T33 t207 x9_1).f1) 0 := bt_at ((rd_T33 t207 x9_1).f1) 0; clear p28; have qi28 : (0 < (((rd_T33 t207 x9_1).f1).size : Int)) = True := eq_true (of_decide_eq_true (by first | (with_reducible assumption) | assumption)); replace q28 := eq_true q28) | (go_at_call 19; (with_reducible refine (proofmarkref01_Digit.calls (bt ((rd_T33 t207 x9_1).f1) 0) t215 _ A29.out).mono ?_); rintro e w' ⟨rfl, ⟨nd, rfl⟩⟩; (try first | exact ⟨rfl, _, World.drewN_drewN _ _ _⟩ | exact ⟨rfl, _, Eq.trans (World.drewN_drewN _ _ _) (congrArg (World.drewN _) (Nat.add_assoc _ _ _))⟩))))
                              go_ret
                              exact ⟨by first | rfl | (simp [errW_none, errW_some] <;> rfl) | (simp [*, errW_none, errW_some] <;> rfl), by repeat (first | (with_reducible first | exact HB.out | apply below_alloc | apply pw_below_drewN | apply below_drew1 | refine below_set ?_ GE213.out) | exact HB.out)⟩
                            · rw [if_neg c43] at H
                              have c43b0 : decide (65535 < ((rd_T33 t207 x9_1).f2)) = false := decide_eq_false c43
                              clear c43
                              have H' := Aside0.mk H
                              clear H
                              have hcz45_0 : wc.cell? ⟨gb213, 0, none⟩ = some (.int .i64 ((rd_T33 t207 x9_1).f0)) := (blk_cell BK213.out 0).trans rfl
                              have hcz45_1 : wc.cell? ⟨gb213, 1, none⟩ = some (.string ((rd_T33 t207 x9_1).f1)) := (blk_cell BK213.out 1).trans rfl
                              have hcz45_2 : wc.cell? ⟨gb213, 2, none⟩ = some (.int .i64 ((rd_T33 t207 x9_1).f2)) := (blk_cell BK213.out 2).trans rfl
                              have hcz45_3 : wc.cell? ⟨gb213, 3, none⟩ = some (.int .i64 ((rd_T33 t207 x9_1).f3)) := (blk_cell BK213.out 3).trans rfl
                              have hfz45_0 := blk_frozen BK213.out 0
                              have hfz45_1 := blk_frozen BK213.out 1
                              have hfz45_2 := blk_frozen BK213.out 2
                              have hfz45_3 := blk_frozen BK213.out 3
                              have p26 : 0 ≤ (0 : Int) := (by omega)
                              have q26 : 0 < ((rd_T33 t207 x9_1).f1).size := (by have : (0 : Int) < (((rd_T33 t207 x9_1).f1).size : Int) := of_decide_eq_true (by first | (with_reducible assumption) | assumption); omega)
                              have hx26 : ∀ h : 0 < ((rd_T33 t207 x9_1).f1).size, ((((rd_T33 t207 x9_1).f1)[0]'h).toNat : Int) = bt ((rd_T33 t207 x9_1).f1) 0 := bt_at ((rd_T33 t207 x9_1).f1) 0
                              clear p26
                              have qi26 : (0 < (((rd_T33 t207 x9_1).f1).size : Int)) = True := eq_true (of_decide_eq_true (by first | (with_reducible assumption) | assumption))
                              replace q26 := eq_true q26
                              go_wp2_with (first | (go_at_call 18; (with_reducible refine (proofmarkref01_Letter.calls (bt ((rd_T33 t207 x9_1).f1) 0) t214 _ A27.out).mono ?_); rintro e w' ⟨rfl, ⟨nd, rfl⟩⟩; (try first | exact ⟨rfl, _, World.drewN_drewN _ _ _⟩ | exact ⟨rfl, _, Eq.trans (World.drewN_drewN _ _ _) (congrArg (World.drewN _) (Nat.add_assoc _ _ _))⟩); have p28 : 0 ≤ (0 : Int) := (by omega); have q28 : 0 < ((rd_T33 t207 x9_1).f1).size := (by have : (0 : Int) < (((rd_T33 t207 x9_1).f1).size : Int) := of_decide_eq_true (by first | (with_reducible assumption) | assumption); omega); have hx28 : ∀ h : 0 < ((rd_T33 t207 x9_1).f1).size, ((((rd_T33 t207 x9_1).f1)[0]'h).toNat : Int) = bt ((rd_T33 t207 x9_1).f1) 0 := bt_at ((rd_T33 t207 x9_1).f1) 0; clear p28; have qi28 : (0 < (((rd_T33 t207 x9_1).f1).size : Int)) = True := eq_true (of_decide_eq_true (by first | (with_reducible assumption) | assumption)); replace q28 := eq_true q28) | (go_at_call 19; (with_reducible refine (proofmarkref01_Digit.calls (bt ((rd_T33 t207 x9_1).f1) 0) t215 _ A29.out).mono ?_); rintro e w' ⟨rfl, ⟨nd, rfl⟩⟩; (try first | exact ⟨rfl, _, World.drewN_drewN _ _ _⟩ | exact ⟨rfl, _, Eq.trans (World.drewN_drewN _ _ _) (congrArg (World.drewN _) (Nat.add_assoc _ _ _))⟩)))
                              repeat (go_quiet (first | (go_at_call 18; (with_reducible refine (proofmarkref01_Letter.calls (bt ((rd_T33 t207 x9_1).f1) 0) t214 _ A27.out).mono ?_); rintro e w' ⟨rfl, ⟨nd, rfl⟩⟩; (try first | exact ⟨rfl, _, World.drewN_drewN _ _ _⟩ | exact ⟨rfl, _, Eq.trans (World.drewN_drewN _ _ _) (congrArg (World.drewN _) (Nat.add_assoc _ _ _))⟩); have p28 : 0 ≤ (0 : Int) := (by omega); have q28 : 0 < ((rd_T33 t207 x9_1).f1).size := (by have : (0 : Int) < (((rd_T33 t207 x9_1).f1).size : Int) := of_decide_eq_true (by first | (with_reducible assumption) | assumption); omega); have hx28 : ∀ h : 0 < ((rd_T33 t207 x9_1).f1).size, ((((rd_T33 t207 x9_1).f1)[0]'h).toNat : Int) = bt ((rd_T33 t207 x9_1).f1) 0 := bt_at ((rd_T33 t207 x9_1).f1) 0; clear p28; have qi28 : (0 < (((rd_T33 t207 x9_1).f1).size : Int)) = True := eq_true (of_decide_eq_true (by first | (with_reducible assumption) | assumption)); replace q28 := eq_true q28) | (go_at_call 19; (with_reducible refine (proofmarkref01_Digit.calls (bt ((rd_T33 t207 x9_1).f1) 0) t215 _ A29.out).mono ?_); rintro e w' ⟨rfl, ⟨nd, rfl⟩⟩; (try first | exact ⟨rfl, _, World.drewN_drewN _ _ _⟩ | exact ⟨rfl, _, Eq.trans (World.drewN_drewN _ _ _) (congrArg (World.drewN _) (Nat.add_assoc _ _ _))⟩))); try go_wp2_with (first | (go_at_call 18; (with_reducible refine (proofmarkref01_Letter.calls (bt ((rd_T33 t207 x9_1).f1) 0) t214 _ A27.out).mono ?_); rintro e w' ⟨rfl, ⟨nd, rfl⟩⟩; (try first | exact ⟨rfl, _, World.drewN_drewN _ _ _⟩ | exact ⟨rfl, _, Eq.trans (World.drewN_drewN _ _ _) (congrArg (World.drewN _) (Nat.add_assoc _ _ _))⟩); have p28 : 0 ≤ (0 : Int) := (by omega); have q28 : 0 < ((rd_T33 t207 x9_1).f1).size := (by have : (0 : Int) < (((rd_T33 t207 x9_1).f1).size : Int) := of_decide_eq_true (by first | (with_reducible assumption) | assumption); omega); have hx28 : ∀ h : 0 < ((rd_T33 t207 x9_1).f1).size, ((((rd_T33 t207 x9_1).f1)[0]'h).toNat : Int) = bt ((rd_T33 t207 x9_1).f1) 0 := bt_at ((rd_T33 t207 x9_1).f1) 0; clear p28; have qi28 : (0 < (((rd_T33 t207 x9_1).f1).size : Int)) = True := eq_true (of_decide_eq_true (by first | (with_reducible assumption) | assumption)); replace q28 := eq_true q28) | (go_at_call 19; (with_reducible refine (proofmarkref01_Digit.calls (bt ((rd_T33 t207 x9_1).f1) 0) t215 _ A29.out).mono ?_); rintro e w' ⟨rfl, ⟨nd, rfl⟩⟩; (try first | exact ⟨rfl, _, World.drewN_drewN _ _ _⟩ | exact ⟨rfl, _, Eq.trans (World.drewN_drewN _ _ _) (congrArg (World.drewN _) (Nat.add_assoc _ _ _))⟩))))
                              go_roundg kj9
                              case measure => have := HK1.out; have := HJ9.out; omega
                              case rel => exact ⟨(wrap64 (((rd_T33 t207 x9_1).f3) + (((rd_T33 t207 x9_1).f1).size : Int))), (wrap64 (x9_1 + 1)), (by first | rfl | (simp; done) | (simp [*]; done)), (by first | rfl | (simp; done) | (simp [*]; done)), H', ⟨by have := HK1.out; have := HJ9.out; omega⟩, ⟨by (with_reducible repeat (first | apply Kd.R_alloc | apply Kd.R_drewN | apply Kd.R_drew)); exact Kd.R_mono HO_5.out (fun _ hk => trivial)⟩, ⟨by repeat (first | (with_reducible first | exact HB.out | apply below_alloc | apply pw_below_drewN | apply below_drew1 | refine below_set ?_ GE213.out) | exact HB.out)⟩⟩
                        · rw [if_neg c40] at H
                          have c40b0 : (((rd_T33 t207 x9_1).f2) == 0) = false := beq_eq_false_iff_ne.mpr c40
                          have c40b1 : (((rd_T33 t207 x9_1).f2) != 0) = true := bne_iff_ne.mpr c40
                          obtain rfl := Option.some.inj H
                          have hcz46_0 : wc.cell? ⟨gb213, 0, none⟩ = some (.int .i64 ((rd_T33 t207 x9_1).f0)) := (blk_cell BK213.out 0).trans rfl
                          have hcz46_1 : wc.cell? ⟨gb213, 1, none⟩ = some (.string ((rd_T33 t207 x9_1).f1)) := (blk_cell BK213.out 1).trans rfl
                          have hcz46_2 : wc.cell? ⟨gb213, 2, none⟩ = some (.int .i64 ((rd_T33 t207 x9_1).f2)) := (blk_cell BK213.out 2).trans rfl
                          have hcz46_3 : wc.cell? ⟨gb213, 3, none⟩ = some (.int .i64 ((rd_T33 t207 x9_1).f3)) := (blk_cell BK213.out 3).trans rfl
                          have hfz46_0 := blk_frozen BK213.out 0
                          have hfz46_1 := blk_frozen BK213.out 1
                          have hfz46_2 := blk_frozen BK213.out 2
                          have hfz46_3 := blk_frozen BK213.out 3
                          have p26 : 0 ≤ (0 : Int) := (by omega)
                          have q26 : 0 < ((rd_T33 t207 x9_1).f1).size := (by have : (0 : Int) < (((rd_T33 t207 x9_1).f1).size : Int) := of_decide_eq_true (by first | (with_reducible assumption) | assumption); omega)
                          have hx26 : ∀ h : 0 < ((rd_T33 t207 x9_1).f1).size, ((((rd_T33 t207 x9_1).f1)[0]'h).toNat : Int) = bt ((rd_T33 t207 x9_1).f1) 0 := bt_at ((rd_T33 t207 x9_1).f1) 0
                          clear p26
                          have qi26 : (0 < (((rd_T33 t207 x9_1).f1).size : Int)) = True := eq_true (of_decide_eq_true (by first | (with_reducible assumption) | assumption))
                          replace q26 := eq_true q26
                          go_wp2_with (first | (go_at_call 18; (with_reducible refine (proofmarkref01_Letter.calls (bt ((rd_T33 t207 x9_1).f1) 0) t214 _ A27.out).mono ?_); rintro e w' ⟨rfl, ⟨nd, rfl⟩⟩; (try first | exact ⟨rfl, _, World.drewN_drewN _ _ _⟩ | exact ⟨rfl, _, Eq.trans (World.drewN_drewN _ _ _) (congrArg (World.drewN _) (Nat.add_assoc _ _ _))⟩); have p28 : 0 ≤ (0 : Int) := (by omega); have q28 : 0 < ((rd_T33 t207 x9_1).f1).size := (by have : (0 : Int) < (((rd_T33 t207 x9_1).f1).size : Int) := of_decide_eq_true (by first | (with_reducible assumption) | assumption); omega); have hx28 : ∀ h : 0 < ((rd_T33 t207 x9_1).f1).size, ((((rd_T33 t207 x9_1).f1)[0]'h).toNat : Int) = bt ((rd_T33 t207 x9_1).f1) 0 := bt_at ((rd_T33 t207 x9_1).f1) 0; clear p28; have qi28 : (0 < (((rd_T33 t207 x9_1).f1).size : Int)) = True := eq_true (of_decide_eq_true (by first | (with_reducible assumption) | assumption)); replace q28 := eq_true q28) | (go_at_call 19; (with_reducible refine (proofmarkref01_Digit.calls (bt ((rd_T33 t207 x9_1).f1) 0) t215 _ A29.out).mono ?_); rintro e w' ⟨rfl, ⟨nd, rfl⟩⟩; (try first | exact ⟨rfl, _, World.drewN_drewN _ _ _⟩ | exact ⟨rfl, _, Eq.trans (World.drewN_drewN _ _ _) (congrArg (World.drewN _) (Nat.add_assoc _ _ _))⟩)))
                          repeat (go_quiet (first | (go_at_call 18; (with_reducible refine (proofmarkref01_Letter.calls (bt ((rd_T33 t207 x9_1).f1) 0) t214 _ A27.out).mono ?_); rintro e w' ⟨rfl, ⟨nd, rfl⟩⟩; (try first | exact ⟨rfl, _, World.drewN_drewN _ _ _⟩ | exact ⟨rfl, _, Eq.trans (World.drewN_drewN _ _ _) (congrArg (World.drewN _) (Nat.add_assoc _ _ _))⟩); have p28 : 0 ≤ (0 : Int) := (by omega); have q28 : 0 < ((rd_T33 t207 x9_1).f1).size := (by have : (0 : Int) < (((rd_T33 t207 x9_1).f1).size : Int) := of_decide_eq_true (by first | (with_reducible assumption) | assumption); omega); have hx28 : ∀ h : 0 < ((rd_T33 t207 x9_1).f1).size, ((((rd_T33 t207 x9_1).f1)[0]'h).toNat : Int) = bt ((rd_T33 t207 x9_1).f1) 0 := bt_at ((rd_T33 t207 x9_1).f1) 0; clear p28; have qi28 : (0 < (((rd_T33 t207 x9_1).f1).size : Int)) = True := eq_true (of_decide_eq_true (by first | (with_reducible assumption) | assumption)); replace q28 := eq_true q28) | (go_at_call 19; (with_reducible refine (proofmarkref01_Digit.calls (bt ((rd_T33 t207 x9_1).f1) 0) t215 _ A29.out).mono ?_); rintro e w' ⟨rfl, ⟨nd, rfl⟩⟩; (try first | exact ⟨rfl, _, World.drewN_drewN _ _ _⟩ | exact ⟨rfl, _, Eq.trans (World.drewN_drewN _ _ _) (congrArg (World.drewN _) (Nat.add_assoc _ _ _))⟩))); try go_wp2_with (first | (go_at_call 18; (with_reducible refine (proofmarkref01_Letter.calls (bt ((rd_T33 t207 x9_1).f1) 0) t214 _ A27.out).mono ?_); rintro e w' ⟨rfl, ⟨nd, rfl⟩⟩; (try first | exact ⟨rfl, _, World.drewN_drewN _ _ _⟩ | exact ⟨rfl, _, Eq.trans (World.drewN_drewN _ _ _) (congrArg (World.drewN _) (Nat.add_assoc _ _ _))⟩); have p28 : 0 ≤ (0 : Int) := (by omega); have q28 : 0 < ((rd_T33 t207 x9_1).f1).size := (by have : (0 : Int) < (((rd_T33 t207 x9_1).f1).size : Int) := of_decide_eq_true (by first | (with_reducible assumption) | assumption); omega); have hx28 : ∀ h : 0 < ((rd_T33 t207 x9_1).f1).size, ((((rd_T33 t207 x9_1).f1)[0]'h).toNat : Int) = bt ((rd_T33 t207 x9_1).f1) 0 := bt_at ((rd_T33 t207 x9_1).f1) 0; clear p28; have qi28 : (0 < (((rd_T33 t207 x9_1).f1).size : Int)) = True := eq_true (of_decide_eq_true (by first | (with_reducible assumption) | assumption)); replace q28 := eq_true q28) | (go_at_call 19; (with_reducible refine (proofmarkref01_Digit.calls (bt ((rd_T33 t207 x9_1).f1) 0) t215 _ A29.out).mono ?_); rintro e w' ⟨rfl, ⟨nd, rfl⟩⟩; (try first | exact ⟨rfl, _, World.drewN_drewN _ _ _⟩ | exact ⟨rfl, _, Eq.trans (World.drewN_drewN _ _ _) (congrArg (World.drewN _) (Nat.add_assoc _ _ _))⟩))))
                          go_ret
                          exact ⟨by first | rfl | (simp [errW_none, errW_some] <;> rfl) | (simp [*, errW_none, errW_some] <;> rfl), by repeat (first | (with_reducible first | exact HB.out | apply below_alloc | apply pw_below_drewN | apply below_drew1 | refine below_set ?_ GE213.out) | exact HB.out)⟩
                · rw [if_neg c25] at H
                  exact absurd H (by simp)
        · rw [if_neg c9] at H
          exact absurd H (by simp)
      · rw [if_neg c8] at H
        have c8b0 : decide (x9_1 < (t207.length : Int)) = false := decide_eq_false c8
        clear c8
        by_cases c47 : t205 = true
        · subst c47
          have H1 : (if t208 = 0 then (some true) else (some ((t207.length : Int) == 0))) = some r := by rw [if_pos rfl] at H; exact H
          clear H
          have H := H1
          clear H1
          by_cases c48 : t208 = 0
          · rw [if_pos c48] at H
            have c48b0 : (t208 == 0) = true := beq_iff_eq.mpr c48
            have c48b1 : (t208 != 0) = false := bne_eq_false_iff_eq.mpr c48
            clear c48
            obtain rfl := Option.some.inj H
            obtain ⟨Ao49, co49, eo49⟩ := Kd.R_slice HO_5.out
            subst eo49
            go_wp2
            repeat (go_quiet (fail); try go_wp2)
            go_ret
            exact ⟨by first | rfl | (simp [errW_none, errW_some] <;> rfl) | (simp [*, errW_none, errW_some] <;> rfl), by repeat (first | (with_reducible first | exact HB.out | apply below_alloc | apply pw_below_drewN | apply below_drew1) | exact HB.out)⟩
          · rw [if_neg c48] at H
            have c48b0 : (t208 == 0) = false := beq_eq_false_iff_ne.mpr c48
            have c48b1 : (t208 != 0) = true := bne_iff_ne.mpr c48
            obtain rfl := Option.some.inj H
            obtain ⟨Ao50, co50, eo50⟩ := Kd.R_slice HO_5.out
            subst eo50
            go_wp2
            repeat (go_quiet (fail); try go_wp2)
            go_ret
            exact ⟨by first | rfl | (simp [errW_none, errW_some] <;> rfl) | (simp [*, errW_none, errW_some] <;> rfl), by repeat (first | (with_reducible first | exact HB.out | apply below_alloc | apply pw_below_drewN | apply below_drew1) | exact HB.out)⟩
        · replace c47 := Bool.eq_false_iff.mpr c47
          subst c47
          have H1 : (some false) = some r := by rw [if_neg (show ¬ (false = true) by decide)] at H; exact H
          clear H
          have H := H1
          clear H1
          obtain rfl := Option.some.inj H
          obtain ⟨Ao51, co51, eo51⟩ := Kd.R_slice HO_5.out
          subst eo51
          go_wp2
          repeat (go_quiet (fail); try go_wp2)
          go_ret
          exact ⟨by first | rfl | (simp [errW_none, errW_some] <;> rfl) | (simp [*, errW_none, errW_some] <;> rfl), by repeat (first | (with_reducible first | exact HB.out | apply below_alloc | apply pw_below_drewN | apply below_drew1) | exact HB.out)⟩

/-- THE ONE PURE STATEMENT of proofmarklaw01_LexPlaces: yours. -/
def proofmarklaw01_LexPlaces.Pure : Prop := ∀ (a0 : ByteArray), a0.size ≤ 140737488351232 → ∃ k, proofmarklaw01_LexPlaces.f k a0 = some true
theorem proofmarklaw01_LexPlaces.walk (P : proofmarklaw01_LexPlaces.Pure) (a0 : ByteArray) (w : World) (hG : Tab w) (w0 : a0.size ≤ 140737488351232) :
    Calls Tryd.prog 5 #[.string a0] w fun e w' => e = .returned (.bool true) ∧ Below w.heap.size w w' := by
  obtain ⟨k, h⟩ := P a0 w0
  refine (proofmarklaw01_LexPlaces.calls k a0 true w hG h).mono ?_
  rintro e w' ⟨rfl, hd⟩
  exact ⟨rfl, hd⟩

end Go.Proofs.YthegiggpkphieaaDoor.Q
