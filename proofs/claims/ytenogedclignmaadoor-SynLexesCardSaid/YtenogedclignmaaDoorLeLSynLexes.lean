/-
  HELPER.
-/
import Derived.Test.YtenogedclignmaaDoorLeK24
namespace Go.Proofs.YtenogedclignmaaDoor.Q
open Go.RowKit Go.Proofs.YtenogedclignmaaDoorW.PrintWords Go.Proofs.YtenogedclignmaaDoorW.PrintLast Go.Proofs.YtenogedclignmaaDoorW.PrintMore
attribute [local go_sem] max2_int min2_int max_two min_two
set_option linter.unusedVariables false
set_option linter.unusedSimpArgs false
mutual
noncomputable def proofmarklaw02_SynLexes.j0 : Nat → Int → Int → Bool → ByteArray → Bool → Option (Bool)
  | 0, _, _, _, _, _ => none
  | k + 1, x1, x2, x7, x8, x29 => if x29 = true then (some x7) else (if 0 ≤ x1 then (if x1 ≤ (x8.size : Int) then ((some (([x2] : List Int) : List Int)).bind fun y103 => (if (x8.extract 0 (x1 : Int).toNat).size + (strOfNums y103).size ≤ 9223372036854775807 then (if ((x8.extract 0 (x1 : Int).toNat) ++ (strOfNums y103)).size + (x8.extract (x1 : Int).toNat x8.size).size ≤ 9223372036854775807 then ((lex_Lex.f (((x8.extract 0 (x1 : Int).toNat) ++ (strOfNums y103)) ++ (x8.extract (x1 : Int).toNat x8.size))).bind fun bt106 => ((syn_Parse.f (((x8.extract 0 (x1 : Int).toNat) ++ (strOfNums y103)) ++ (x8.extract (x1 : Int).toNat x8.size))).bind fun bt111 => (if bt106.2.1 = 0 then (proofmarklaw02_SynLexes.l0 k x7 0 bt111.1) else (if x7 = true then (if (bt111.1.length : Int) = 0 then ((proofmarkref02_SameFaults.f bt111.2 (([(⟨bt106.2.1, bt106.2.2, 0, 0⟩ : S35)] : List (S35)))).bind fun t121 => (some t121)) else (some false)) else (some false))))) else (none)) else (none))) else (none)) else (none))
noncomputable def proofmarklaw02_SynLexes.l0 : Nat → Bool → Int → List (S47) → Option (Bool)
  | 0, _, _, _ => none
  | k + 1, x7, x15, x118000 => if x15 < (x118000.length : Int) then (if 0 ≤ x15 then ((lex_Lex.f ((rd_T47 x118000 x15).f0)).bind fun bt123 => (if bt123.2.1 = 0 then (if (bt123.1.length : Int) = 1 then (if 0 < (bt123.1.length : Int) then (if ((rd_T37 bt123.1 0).f0) = 1 then ((syn_Word.f ((rd_T47 x118000 x15).f0)).bind fun t130 => (if t130 = true then (some false) else (if 0 < (((rd_T37 bt123.1 0).f1).size : Int) then ((proofmarkref01_Letter.f (bt ((rd_T37 bt123.1 0).f1) 0)).bind fun t132 => (if t132 = true then (proofmarklaw02_SynLexes.l0 k x7 (wrap64 (x15 + 1)) x118000) else (some false))) else (none)))) else (some false)) else (none)) else (some false)) else (some false))) else (none)) else (some x7)
end
noncomputable def proofmarklaw02_SynLexes.f (k : Nat) (a0 : ByteArray) (a1 : Int) (a2 : Int) : Option (Bool) := (proofmarklaw02_head.f).bind fun t101 => ((proofmarklaw02_few.f a0).bind fun t102 => (if a1 < 0 then (proofmarklaw02_SynLexes.j0 k a1 a2 t101 t102 true) else (proofmarklaw02_SynLexes.j0 k a1 a2 t101 t102 (decide (a1 > (t102.size : Int))))))
def proofmarklaw02_SynLexes.T5 : Bool × List (List Nat × List Nat) := (true, [([], []), ([], []), ([0, 1], [0, 1]), ([], []), ([3], [3]), ([4], [4]), ([2, 5], [2, 5]), ([], []), ([], []), ([7, 8], [7, 8]), ([6, 9], [6, 9]), ([10, 0, 1, 2, 3, 4, 5, 6, 7, 8, 9, 10], [10])])
def proofmarklaw02_SynLexes.B5 : List Nat := [0, 0, 3, 0, 8, 24, 63, 0, 0, 384, 1023, 2047]
theorem proofmarklaw02_SynLexes.tab5 : rtab .any (opsOf Tryd.f7 5) = proofmarklaw02_SynLexes.T5 := by kernel_rfl
theorem proofmarklaw02_SynLexes.bits5 : waitsOk proofmarklaw02_SynLexes.T5.2 proofmarklaw02_SynLexes.B5 = true := by kernel_rfl
set_option maxHeartbeats 8000000 in
set_option maxRecDepth 100000 in
theorem proofmarklaw02_SynLexes.calls1 (k : Nat) (a0 : ByteArray) (a1 : Int) (a2 : Int) (r : Bool) (w : World) (hG : Tab w) (h : proofmarklaw02_SynLexes.f k a0 a1 a2 = some r) (hr : r = true) :
    Calls Tryd.prog 7 #[.string a0, .int .i64 a1, .int .u8 a2] w fun e w' => e = .returned (.bool r) ∧ Below w.heap.size w w' := by
  have HRT := Aside0.mk hr
  clear hr
  have HG := Aside0.mk hG
  clear hG
  have hu26 := Tryd.underlying26
  have hu35 := Tryd.underlying35
  have HB := Aside0.mk (Below.refl w.heap.size w)
  have H : ((proofmarklaw02_head.f).bind fun t101 => ((proofmarklaw02_few.f a0).bind fun t102 => (if a1 < 0 then (proofmarklaw02_SynLexes.j0 k a1 a2 t101 t102 true) else (proofmarklaw02_SynLexes.j0 k a1 a2 t101 t102 (decide (a1 > (t102.size : Int))))))) = some r := h
  clear h
  replace H := Option.bind_eq_some_iff.mp H
  obtain ⟨t101, A40, H⟩ := H
  replace H : ((proofmarklaw02_few.f a0).bind fun t102 => (if a1 < 0 then (proofmarklaw02_SynLexes.j0 k a1 a2 t101 t102 true) else (proofmarklaw02_SynLexes.j0 k a1 a2 t101 t102 (decide (a1 > (t102.size : Int)))))) = some r := H
  have A4 := Aside0.mk A40
  clear A40
  replace H := Option.bind_eq_some_iff.mp H
  obtain ⟨t102, A50, H⟩ := H
  replace H : (if a1 < 0 then (proofmarklaw02_SynLexes.j0 k a1 a2 t101 t102 true) else (proofmarklaw02_SynLexes.j0 k a1 a2 t101 t102 (decide (a1 > (t102.size : Int))))) = some r := H
  have A5 := Aside0.mk A50
  clear A50
  have HC6 := Aside0.mk H
  clear H
  go_enter Tryd.func7, Tryd.ntmps7
  go_upto_region 3 with (first | ((with_reducible refine gate_callee (f := 9) rfl ?_); refine goesL_ (some 19) rfl rfl Tryd.func9 (by kernel_rfl) rfl #[] rfl (by (try simp only [List.map_toArray, List.map_cons, List.map_nil]); first | done | rfl | (simp only [List.length_drop, List.length_take]; rfl)) ?_; (with_reducible refine (proofmarklaw02_head.calls t101 _ (by first | exact HG.out | (refine tab_below HG.out ?_; repeat (first | (with_reducible first | exact HB.out | apply below_alloc | apply pw_below_drewN | apply below_drew1 | refine below_set ?_ GE117.out) | exact HB.out)) | (refine tab_drawn HG.out ?_; repeat (first | exact Drawn0.refl _ | apply drawn_drewN | apply drawn_drew))) A4.out).mono ?_); rintro e w7 ⟨rfl, hb⟩; refine ⟨_, rfl, ?_⟩; have n0_ := Aside0.mk (below_step (by repeat (first | (with_reducible first | exact HB.out | apply below_alloc | apply pw_below_drewN | apply below_drew1) | exact HB.out)) hb); clear HB; have HB := n0_; clear n0_; (try clear hb); (try clear hb2); (try clear hk); (try clear hi)) | ((with_reducible refine gate_callee (f := 10) rfl ?_); refine goesL_ (some 21) rfl rfl Tryd.func10 (by kernel_rfl) rfl #[.string a0] rfl (by (try simp only [List.map_toArray, List.map_cons, List.map_nil]); first | done | rfl | (simp only [List.length_drop, List.length_take]; rfl)) ?_; (with_reducible refine (proofmarklaw02_few.calls a0 t102 _ A5.out).mono ?_); rintro e w8 ⟨rfl, hb⟩; refine ⟨_, rfl, ?_⟩; have n0_ := Aside0.mk (below_step (by repeat (first | (with_reducible first | exact HB.out | apply below_alloc | apply pw_below_drewN | apply below_drew1) | exact HB.out)) hb); clear HB; have HB := n0_; clear n0_; (try clear hb); (try clear hb2); (try clear hk); (try clear hi)))
  (try simp only [Act.put, List.setIfInBounds_toArray, List.set_cons_zero, List.set_cons_succ])
  go_cut [29] (fun v29 wc => ∃ (kq : Nat) (x29_5 : Bool), v29 = .bool x29_5 ∧ Aside0 (proofmarklaw02_SynLexes.j0 kq a1 a2 t101 t102 x29_5 = some r) ∧ Aside0 (kq ≤ k) ∧ Aside0 (Below w.heap.size w wc))
  case first =>
    have H := HC6.out
    clear HC6
    by_cases c9 : a1 < 0
    · rw [if_pos c9] at H
      have c9b0 : decide (a1 < 0) = true := decide_eq_true c9
      clear c9
      (first | rw [c9b0] | (simp only [i64_w, i32_w]; rw [c9b0]) | skip)
      have H' := Aside0.mk H
      clear H
      go_wp2
      go_meet
      case rel => exact ⟨_, (true), (by first | rfl | (simp; done) | (simp [*]; done)), H', ⟨by first | omega | exact Nat.le_refl _⟩, ⟨by repeat (first | (with_reducible first | exact HB.out | apply below_alloc | apply pw_below_drewN | apply below_drew1) | exact HB.out)⟩⟩
    · rw [if_neg c9] at H
      have c9b0 : decide (a1 < 0) = false := decide_eq_false c9
      clear c9
      (first | rw [c9b0] | (simp only [i64_w, i32_w]; rw [c9b0]) | skip)
      have H' := Aside0.mk H
      clear H
      go_wp2
      go_meet
      case rel => exact ⟨_, (decide (a1 > (t102.size : Int))), (by first | rfl | (simp; done) | (simp [*]; done)), H', ⟨by first | omega | exact Nat.le_refl _⟩, ⟨by repeat (first | (with_reducible first | exact HB.out | apply below_alloc | apply pw_below_drewN | apply below_drew1) | exact HB.out)⟩⟩
  case rest =>
    clear HC6
    try clear c1
    try clear p2
    try clear c7
    try clear c9
    try clear c9b0
    obtain ⟨kq, x29_5, rfl, HA, HJ5, HB⟩ := hcut
    cases kq with
    | zero => exact absurd HA.out (by simp [proofmarklaw02_SynLexes.j0])
    | succ kj5 =>
      have H := HA.out
      clear HA
      simp only [proofmarklaw02_SynLexes.j0] at H
      by_cases c10 : x29_5 = true
      · subst c10
        have H1 : (some t101) = some r := by rw [if_pos rfl] at H; exact H
        clear H
        have H := H1
        clear H1
        obtain rfl := Option.some.inj H
        go_wp2
        go_ret
        exact ⟨by first | rfl | (simp [errW_none, errW_some] <;> rfl) | (simp [*, errW_none, errW_some] <;> rfl), by repeat (first | (with_reducible first | exact HB.out | apply below_alloc | apply pw_below_drewN | apply below_drew1) | exact HB.out)⟩
      · replace c10 := Bool.eq_false_iff.mpr c10
        subst c10
        have H1 : (if 0 ≤ a1 then (if a1 ≤ (t102.size : Int) then ((some (([a2] : List Int) : List Int)).bind fun y103 => (if (t102.extract 0 (a1 : Int).toNat).size + (strOfNums y103).size ≤ 9223372036854775807 then (if ((t102.extract 0 (a1 : Int).toNat) ++ (strOfNums y103)).size + (t102.extract (a1 : Int).toNat t102.size).size ≤ 9223372036854775807 then ((lex_Lex.f (((t102.extract 0 (a1 : Int).toNat) ++ (strOfNums y103)) ++ (t102.extract (a1 : Int).toNat t102.size))).bind fun bt106 => ((syn_Parse.f (((t102.extract 0 (a1 : Int).toNat) ++ (strOfNums y103)) ++ (t102.extract (a1 : Int).toNat t102.size))).bind fun bt111 => (if bt106.2.1 = 0 then (proofmarklaw02_SynLexes.l0 kj5 t101 0 bt111.1) else (if t101 = true then (if (bt111.1.length : Int) = 0 then ((proofmarkref02_SameFaults.f bt111.2 (([(⟨bt106.2.1, bt106.2.2, 0, 0⟩ : S35)] : List (S35)))).bind fun t121 => (some t121)) else (some false)) else (some false))))) else (none)) else (none))) else (none)) else (none)) = some r := by rw [if_neg (show ¬ (false = true) by decide)] at H; exact H
        clear H
        have H := H1
        clear H1
        by_cases c11 : 0 ≤ a1
        · rw [if_pos c11] at H
          have c11b0 := eq_true c11
          have c11b1 : decide (0 ≤ a1) = true := decide_eq_true c11
          clear c11
          by_cases c12 : a1 ≤ (t102.size : Int)
          · rw [if_pos c12] at H
            have c12b0 := eq_true c12
            have c12b1 : decide (a1 ≤ (t102.size : Int)) = true := decide_eq_true c12
            clear c12
            obtain ⟨y103, hy103⟩ : ∃ y_ : List Int, y_ = (([a2] : List Int)) := ⟨_, rfl⟩
            replace H : (if (t102.extract 0 (a1 : Int).toNat).size + (strOfNums y103).size ≤ 9223372036854775807 then (if ((t102.extract 0 (a1 : Int).toNat) ++ (strOfNums y103)).size + (t102.extract (a1 : Int).toNat t102.size).size ≤ 9223372036854775807 then ((lex_Lex.f (((t102.extract 0 (a1 : Int).toNat) ++ (strOfNums y103)) ++ (t102.extract (a1 : Int).toNat t102.size))).bind fun bt106 => ((syn_Parse.f (((t102.extract 0 (a1 : Int).toNat) ++ (strOfNums y103)) ++ (t102.extract (a1 : Int).toNat t102.size))).bind fun bt111 => (if bt106.2.1 = 0 then (proofmarklaw02_SynLexes.l0 kj5 t101 0 bt111.1) else (if t101 = true then (if (bt111.1.length : Int) = 0 then ((proofmarkref02_SameFaults.f bt111.2 (([(⟨bt106.2.1, bt106.2.2, 0, 0⟩ : S35)] : List (S35)))).bind fun t121 => (some t121)) else (some false)) else (some false))))) else (none)) else (none)) = some r := by first | (rw [hy103]; with_reducible exact H) | (have H2_ := (Option.bind_some _ _).symm.trans H; rw [hy103]; with_reducible exact H2_) | (have H2_ := (Option.bind_some _ _).symm.trans H; with_reducible exact H2_) | with_reducible exact H | (rw [hy103]; exact H) | exact H
            have Ny103 := Aside0.mk hy103
            clear hy103
            by_cases c13 : (t102.extract 0 (a1 : Int).toNat).size + (strOfNums y103).size ≤ 9223372036854775807
            · rw [if_pos c13] at H
              have c13b0 := eq_true c13
              have c13b1 : decide ((t102.extract 0 (a1 : Int).toNat).size + (strOfNums y103).size ≤ 9223372036854775807) = true := decide_eq_true c13
              try have c13b2 : (9223372036854775807 < (t102.extract 0 (a1 : Int).toNat).size + (strOfNums y103).size) = False := eq_false (Nat.not_lt.2 c13)
              have c13b3 : (9223372036854775807 < a1.toNat + (strOfNums y103).size) = False := eq_false (by have h1 := c13; rw [ByteArray.size_extract] at h1; have h2 := of_eq_true c12b0; omega)
              have c14b0 := eq_true (of_decide_eq_true (by first | (with_reducible assumption) | assumption) : 0 ≤ a1)
              have c15b0 := eq_true (of_decide_eq_true (by first | (with_reducible assumption) | assumption) : a1 ≤ (t102.size : Int))
              by_cases c16 : ((t102.extract 0 (a1 : Int).toNat) ++ (strOfNums y103)).size + (t102.extract (a1 : Int).toNat t102.size).size ≤ 9223372036854775807
              · rw [if_pos c16] at H
                have c16b0 := eq_true c16
                have c16b1 : decide (((t102.extract 0 (a1 : Int).toNat) ++ (strOfNums y103)).size + (t102.extract (a1 : Int).toNat t102.size).size ≤ 9223372036854775807) = true := decide_eq_true c16
                try have c16b2 : (9223372036854775807 < ((t102.extract 0 (a1 : Int).toNat) ++ (strOfNums y103)).size + (t102.extract (a1 : Int).toNat t102.size).size) = False := eq_false (Nat.not_lt.2 c16)
                have c16b3 : (9223372036854775807 < a1.toNat + (strOfNums y103).size + (t102.size - a1.toNat)) = False := eq_false (by have h1 := c16; rw [ByteArray.size_append, ByteArray.size_extract, ByteArray.size_extract] at h1; have h2 := of_eq_true c12b0; omega)
                replace H := Option.bind_eq_some_iff.mp H
                obtain ⟨⟨t106, t107, t108⟩, A170, H⟩ := H
                replace H : ((syn_Parse.f (((t102.extract 0 (a1 : Int).toNat) ++ (strOfNums y103)) ++ (t102.extract (a1 : Int).toNat t102.size))).bind fun bt111 => (if t107 = 0 then (proofmarklaw02_SynLexes.l0 kj5 t101 0 bt111.1) else (if t101 = true then (if (bt111.1.length : Int) = 0 then ((proofmarkref02_SameFaults.f bt111.2 (([(⟨t107, t108, 0, 0⟩ : S35)] : List (S35)))).bind fun t121 => (some t121)) else (some false)) else (some false)))) = some r := H
                have A17 := Aside0.mk A170
                clear A170
                replace H := Option.bind_eq_some_iff.mp H
                obtain ⟨⟨t111, t114⟩, A180, H⟩ := H
                replace H : (if t107 = 0 then (proofmarklaw02_SynLexes.l0 kj5 t101 0 t111) else (if t101 = true then (if (t111.length : Int) = 0 then ((proofmarkref02_SameFaults.f t114 (([(⟨t107, t108, 0, 0⟩ : S35)] : List (S35)))).bind fun t121 => (some t121)) else (some false)) else (some false))) = some r := H
                have A18 := Aside0.mk A180
                clear A180
                by_cases c19 : t107 = 0
                · rw [if_pos c19] at H
                  have c19b0 : (t107 == 0) = true := beq_iff_eq.mpr c19
                  have c19b1 : (t107 != 0) = false := bne_eq_false_iff_eq.mpr c19
                  clear c19
                  have H' := Aside0.mk H
                  clear H
                  try go_wp2
                  have n0_ := Aside0.mk (below_drew1 HB.out)
                  clear HB
                  have HB := n0_
                  clear n0_
                  refine start_ (n := 12) (S := fun w' => True) (ds := []) #[false, false, false, false, false, false, false, false, false, false, false, false] (by kernel_rfl) rfl rfl trivial (fun hHeld => ?_); refine with_tabW proofmarklaw02_SynLexes.tab5 proofmarklaw02_SynLexes.bits5 (fun HT_ HW_ => ?_)
                  generalize wc.drew = w20 at HB hHeld ⊢
                  refine pure_ (i := 0) (N := some 31) (v := ?_) (a' := ?_) #[true, false, false, false, false, false, false, false, false, false, false, false] rfl rfl (any_of HT_.out (by kernel_rfl)) (fun _ _ _ h => h) (Or.inl ⟨by rfl, ?_⟩) ?_ ?_
                  rotate_left
                  · intro w'
                    go_simp
                    with_reducible rfl
                  rotate_left
                  · simp only [Act.put, List.setIfInBounds_toArray, List.set_cons_zero, List.set_cons_succ, i64_w, i32_w]
                    rfl
                  refine pure_ (i := 1) (N := some 32) (v := ?_) (a' := ?_) #[true, true, false, false, false, false, false, false, false, false, false, false] rfl rfl (any_of HT_.out (by kernel_rfl)) (fun _ _ _ h => h) (Or.inl ⟨by rfl, ?_⟩) ?_ ?_
                  rotate_left
                  · intro w'
                    go_simp
                    with_reducible rfl
                  rotate_left
                  · simp only [Act.put, List.setIfInBounds_toArray, List.set_cons_zero, List.set_cons_succ, i64_w, i32_w]
                    rfl
                  refine pure_ (i := 2) (N := some 33) (v := ?_) (a' := ?_) #[true, true, true, false, false, false, false, false, false, false, false, false] rfl rfl (any_of HT_.out (by kernel_rfl)) (fun _ _ _ h => h) (Or.inl ⟨by rfl, ?_⟩) ?_ ?_
                  rotate_left
                  · intro w'
                    go_simp
                    with_reducible rfl
                  rotate_left
                  · simp only [Act.put, List.setIfInBounds_toArray, List.set_cons_zero, List.set_cons_succ, i64_w, i32_w]
                    rfl
                  refine pure_ (i := 3) (N := some 34) (v := ?_) (a' := ?_) #[true, true, true, true, false, false, false, false, false, false, false, false] rfl rfl (any_of HT_.out (by kernel_rfl)) (fun _ _ _ h => h) (Or.inl ⟨by rfl, ?_⟩) ?_ ?_
                  rotate_left
                  · intro w'
                    go_simp
                    with_reducible rfl
                  rotate_left
                  · simp only [Act.put, List.setIfInBounds_toArray, List.set_cons_zero, List.set_cons_succ, i64_w, i32_w]
                    rfl
                  refine pure_ (i := 7) (N := some 38) (v := ?_) (a' := ?_) #[true, true, true, true, false, false, false, true, false, false, false, false] rfl rfl (any_of HT_.out (by kernel_rfl)) (fun _ _ _ h => h) (Or.inl ⟨by rfl, ?_⟩) ?_ ?_
                  rotate_left
                  · intro w'
                    go_simp
                    with_reducible rfl
                  rotate_left
                  · simp only [Act.put, List.setIfInBounds_toArray, List.set_cons_zero, List.set_cons_succ, i64_w, i32_w]
                    rfl
                  refine pure_ (i := 8) (N := some 39) (v := ?_) (a' := ?_) #[true, true, true, true, false, false, false, true, true, false, false, false] rfl rfl (any_of HT_.out (by kernel_rfl)) (fun _ _ _ h => h) (Or.inl ⟨by rfl, ?_⟩) ?_ ?_
                  rotate_left
                  · intro w'
                    go_simp
                    with_reducible rfl
                  rotate_left
                  · simp only [Act.put, List.setIfInBounds_toArray, List.set_cons_zero, List.set_cons_succ, i64_w, i32_w]
                    rfl
                  refine pure_ (i := 9) (N := some 40) (v := ?_) (a' := ?_) #[true, true, true, true, false, false, false, true, true, true, false, false] rfl rfl (any_of HT_.out (by kernel_rfl)) (fun _ _ _ h => h) (Or.inl ⟨by rfl, ?_⟩) ?_ ?_
                  rotate_left
                  · intro w'
                    go_simp
                    with_reducible rfl
                  rotate_left
                  · simp only [Act.put, List.setIfInBounds_toArray, List.set_cons_zero, List.set_cons_succ, i64_w, i32_w]
                    rfl
                  refine one_ (i := 4) (N := some 35) #[true, true, true, true, true, false, false, true, true, true, false, false] rfl rfl (one_of HT_.out (by kernel_rfl)) (by decide) (fun K hK => ?_)
                  refine Kd.R_lit_step (Kd.int .u8) _ 5 ?hg (N := 35) ?hd (xs := ([a2] : List Int)) (inner := [.int .u8 a2]) (ok := fun _ => True) (okp := fun _ => True) ?hr ?hp (fun _ hk => hk) trivial (Below.refl _ _) (Nat.le_refl _) (by simp) ?_; (case hd => rfl); (case hg => rfl); (case hr => first | (go_simp; done) | (go_simp; rfl)); (case hp => exact (Reps.one (show Kd.M (Kd.int .u8) _ _ _ a2 [.int .u8 a2] from rfl) (Reps.none _ _)))
                  intro v104 w21 ho22 hb hg_ hnew_
                  clear hg_ hnew_
                  (first | rw [← Ny103.out] at ho22 | (simp only [Int.reduceToNat] at ho22; rw [← Ny103.out] at ho22))
                  have n0_ := Aside0.mk (Kd.R_lower ho22 (below_size (by repeat (first | (with_reducible first | exact HB.out | apply below_alloc | apply pw_below_drewN | apply below_drew1) | exact HB.out))))
                  have n1_ := Aside0.mk (below_step (by repeat (first | (with_reducible first | exact HB.out | apply below_alloc | apply pw_below_drewN | apply below_drew1) | exact HB.out)) hb)
                  clear HB
                  have HO105 := n0_
                  have HB := n1_
                  clear n0_ n1_
                  clear hb ho22
                  refine hK.out _ _ trivial (fun hHeld => ?_)
                  clear hK K
                  refine norm_ (a' := ?_) ?_ ?_
                  rotate_left
                  · show Act.put _ (some 35) _ = _
                    simp only [Act.put, List.setIfInBounds_toArray, List.set_cons_zero, List.set_cons_succ, i64_w, i32_w]
                    rfl
                  refine one_ (i := 5) (N := some 36) #[true, true, true, true, true, true, false, true, true, true, false, false] rfl rfl (one_of HT_.out (by kernel_rfl)) (by decide) (fun K hK => ?_)
                  have hcv23 := own_string (P := Tryd.prog) Tryd.underlying59 Tryd.underlying5 Tryd.underlying9 (Kd.own_of_R HO105.out)
                  refine value_ (w1 := ?_) (v := ?_) (by rfl) rfl ?_ ?_
                  rotate_left 2
                  · go_simp
                    constructor
                    · rfl
                    · rfl
                  clear hcv23
                  refine hK.out _ _ trivial (fun hHeld => ?_)
                  clear hK K
                  refine norm_ (a' := ?_) ?_ ?_
                  rotate_left
                  · show Act.put _ (some 36) _ = _
                    simp only [Act.put, List.setIfInBounds_toArray, List.set_cons_zero, List.set_cons_succ, i64_w, i32_w]
                    rfl
                  refine pure_ (i := 6) (N := some 37) (v := ?_) (a' := ?_) #[true, true, true, true, true, true, true, true, true, true, false, false] rfl rfl (any_of HT_.out (by kernel_rfl)) (fun _ _ _ h => h) (Or.inl ⟨by rfl, ?_⟩) ?_ ?_
                  rotate_left
                  · intro w'
                    go_simp
                    with_reducible rfl
                  rotate_left
                  · simp only [Act.put, List.setIfInBounds_toArray, List.set_cons_zero, List.set_cons_succ, i64_w, i32_w]
                    rfl
                  refine pure_ (i := 10) (N := some 41) (v := ?_) (a' := ?_) #[true, true, true, true, true, true, true, true, true, true, true, false] rfl rfl (any_of HT_.out (by kernel_rfl)) (fun _ _ _ h => h) (Or.inl ⟨by rfl, ?_⟩) ?_ ?_
                  rotate_left
                  · intro w'
                    go_simp
                    with_reducible rfl
                  rotate_left
                  · simp only [Act.put, List.setIfInBounds_toArray, List.set_cons_zero, List.set_cons_succ, i64_w, i32_w]
                    rfl
                  refine pure_ (i := 11) (N := some 9) (v := ?_) (a' := ?_) #[true, true, true, true, true, true, true, true, true, true, true, true] rfl rfl (any_of HT_.out (by kernel_rfl)) (fun _ _ _ h => h) (Or.inl ⟨by rfl, ?_⟩) ?_ ?_
                  rotate_left
                  · intro w'
                    go_simp
                    with_reducible rfl
                  rotate_left
                  · simp only [Act.put, List.setIfInBounds_toArray, List.set_cons_zero, List.set_cons_succ, i64_w, i32_w]
                    rfl
                  refine done_ (done_of HT_.out (by kernel_rfl)) ?_
                  try go_wp2_with (first | ((with_reducible refine gate_callee (f := 12) rfl ?_); refine goesL_ (some 44) rfl rfl Tryd.func12 (by kernel_rfl) rfl #[.string (((t102.extract 0 (a1 : Int).toNat) ++ (strOfNums y103)) ++ (t102.extract (a1 : Int).toNat t102.size))] rfl (by (try simp only [List.map_toArray, List.map_cons, List.map_nil]); first | done | rfl | (simp only [List.length_drop, List.length_take]; rfl)) ?_; (with_reducible refine (lex_Lex.calls (((t102.extract 0 (a1 : Int).toNat) ++ (strOfNums y103)) ++ (t102.extract (a1 : Int).toNat t102.size)) t106 t107 t108 _ (by first | exact HG.out | (refine tab_below HG.out ?_; repeat (first | (with_reducible first | exact HB.out | apply below_alloc | apply pw_below_drewN | apply below_drew1 | refine below_set ?_ GE117.out) | exact HB.out)) | (refine tab_drawn HG.out ?_; repeat (first | exact Drawn0.refl _ | apply drawn_drewN | apply drawn_drew))) A17.out).mono ?_); rintro e w24 ⟨v109, rfl, ho0, hb⟩; refine ⟨_, rfl, ?_⟩; have n0_ := Aside0.mk (Kd.R_below (by (with_reducible repeat (first | apply Kd.R_alloc | apply Kd.R_drewN | apply Kd.R_drew)); exact HO105.out) hb); have n1_ := Aside0.mk (Kd.R_lower ho0 (below_size (by repeat (first | (with_reducible first | exact HB.out | apply below_alloc | apply pw_below_drewN | apply below_drew1) | exact HB.out)))); have n2_ := Aside0.mk (below_step (by repeat (first | (with_reducible first | exact HB.out | apply below_alloc | apply pw_below_drewN | apply below_drew1) | exact HB.out)) hb); clear HO105; clear HB; have HO105 := n0_; have HO110 := n1_; have HB := n2_; clear n0_ n1_ n2_; (try clear hb); (try clear hb2); (try clear hk); (try clear hi); (try clear ho0)) | ((with_reducible refine gate_callee (f := 11) rfl ?_); refine goesL_ (some 50) rfl rfl Tryd.func11 (by kernel_rfl) rfl #[.string (((t102.extract 0 (a1 : Int).toNat) ++ (strOfNums y103)) ++ (t102.extract (a1 : Int).toNat t102.size))] rfl (by (try simp only [List.map_toArray, List.map_cons, List.map_nil]); first | done | rfl | (simp only [List.length_drop, List.length_take]; rfl)) ?_; (with_reducible refine (syn_Parse.calls (((t102.extract 0 (a1 : Int).toNat) ++ (strOfNums y103)) ++ (t102.extract (a1 : Int).toNat t102.size)) t111 t114 _ (by first | exact HG.out | (refine tab_below HG.out ?_; repeat (first | (with_reducible first | exact HB.out | apply below_alloc | apply pw_below_drewN | apply below_drew1 | refine below_set ?_ GE117.out) | exact HB.out)) | (refine tab_drawn HG.out ?_; repeat (first | exact Drawn0.refl _ | apply drawn_drewN | apply drawn_drew))) A18.out).mono ?_); rintro e w25 ⟨v112, v115, rfl, ho0, ho1, hb⟩; refine ⟨_, rfl, ?_⟩; have n0_ := Aside0.mk (Kd.R_below (by (with_reducible repeat (first | apply Kd.R_alloc | apply Kd.R_drewN | apply Kd.R_drew)); exact HO105.out) hb); have n1_ := Aside0.mk (Kd.R_below (by (with_reducible repeat (first | apply Kd.R_alloc | apply Kd.R_drewN | apply Kd.R_drew)); exact HO110.out) hb); have n2_ := Aside0.mk (Kd.R_lower ho0 (below_size (by repeat (first | (with_reducible first | exact HB.out | apply below_alloc | apply pw_below_drewN | apply below_drew1) | exact HB.out)))); have n3_ := Aside0.mk (Kd.R_lower ho1 (below_size (by repeat (first | (with_reducible first | exact HB.out | apply below_alloc | apply pw_below_drewN | apply below_drew1) | exact HB.out)))); have n4_ := Aside0.mk (below_step (by repeat (first | (with_reducible first | exact HB.out | apply below_alloc | apply pw_below_drewN | apply below_drew1) | exact HB.out)) hb); clear HO105; clear HO110; clear HB; have HO105 := n0_; have HO110 := n1_; have HO113 := n2_; have HO116 := n3_; have HB := n4_; clear n0_ n1_ n2_ n3_ n4_; (try clear hb); (try clear hb2); (try clear hk); (try clear hi); (try clear ho0); (try clear ho1)) | ((with_reducible refine gate_dst (N := 13) rfl ?_); (try (refine gate_guard (by rfl) ?_; dsimp only)); refine box_event ?hg (N := 13) ?hd (cs := #[.slice none 0 0]) (t := 26) ?hr ?_; (case hd => rfl); (case hg => rfl); (case hr => first | (go_simp; done) | (go_simp; rfl)); intro gb117 hg w26 hbox hb; have n0_ := Aside0.mk (Kd.R_below (by (with_reducible repeat (first | apply Kd.R_alloc | apply Kd.R_drewN | apply Kd.R_drew)); exact HO105.out) hb); have n1_ := Aside0.mk (Kd.R_below (by (with_reducible repeat (first | apply Kd.R_alloc | apply Kd.R_drewN | apply Kd.R_drew)); exact HO110.out) hb); have n2_ := Aside0.mk (Kd.R_below (by (with_reducible repeat (first | apply Kd.R_alloc | apply Kd.R_drewN | apply Kd.R_drew)); exact HO113.out) hb); have n3_ := Aside0.mk (Kd.R_below (by (with_reducible repeat (first | apply Kd.R_alloc | apply Kd.R_drewN | apply Kd.R_drew)); exact HO116.out) hb); have n4_ := Aside0.mk (below_step (by repeat (first | (with_reducible first | exact HB.out | apply below_alloc | apply pw_below_drewN | apply below_drew1) | exact HB.out)) hb); have n5_ := Aside0.mk (hbox); have n6_ := Aside0.mk ((by rw [hg]; exact (below_size (by repeat (first | (with_reducible first | exact HB.out | apply below_alloc | apply pw_below_drewN | apply below_drew1) | exact HB.out))) : w.heap.size ≤ gb117)); have n7_ := Aside0.mk ((by rw [hg]; exact (below_size (by repeat (first | (with_reducible first | exact HB.out | apply below_alloc | apply pw_below_drewN | apply below_drew1) | exact HB.out))) : w.heap.size ≤ gb117)); clear HO105; clear HO110; clear HO113; clear HO116; clear HB; have HO105 := n0_; have HO110 := n1_; have HO113 := n2_; have HO116 := n3_; have HB := n4_; have BK117 := n5_; have GW117 := n6_; have GE117 := n7_; clear n0_ n1_ n2_ n3_ n4_ n5_ n6_ n7_; clear hb hbox hg; obtain ⟨Ao27, co27, eo27⟩ := Kd.R_slice HO113.out; subst eo27; have hcz28_0 : w26.cell? ⟨gb117, 0, none⟩ = some (.slice none 0 0) := (blk_cell BK117.out 0).trans rfl; have hfz28_0 := blk_frozen BK117.out 0))
                  try simp only [Act.put, List.setIfInBounds_toArray, List.set_cons_succ, List.set_cons_zero]
                  go_loopg [15] kj5 (fun kq v15 w' => ∃ (x15_2 : Int), v15 = .int .i64 x15_2 ∧ Aside0 (proofmarklaw02_SynLexes.l0 kq t101 x15_2 t111 = some r) ∧ Aside0 (kq ≤ kj5) ∧ Aside0 (Kd.R k47 47 w' w.heap.size (fun _ => True) (.slice Ao27 t111.length co27) t111) ∧ Aside0 (w'.heap[gb117]? = some (.cells #[(.slice Ao27 t111.length co27)] 26 (0, 0))) ∧ Aside0 (Below w.heap.size w w'))
                  case atStart => exact ⟨(0), (by first | rfl | (simp; done) | (simp [*]; done)), H', ⟨Nat.le_refl _⟩, ⟨by (with_reducible repeat (first | apply Kd.R_alloc | apply Kd.R_drewN | apply Kd.R_drew)); exact Kd.R_mono (Kd.R_far (p := ⟨gb117, 0, none⟩) (Kd.R_types HO113.out BK117.out (by decide)) (fun _ hk => hk.2) (.slice Ao27 t111.length co27)) (fun _ hk => trivial)⟩, ⟨by (with_reducible repeat (first | refine blk_drewN ?_ _ | refine blk_drew ?_ | refine blk_alloc ?_ _)); refine blk_put (cs := #[.slice none 0 0]) ?_ 0 _ rfl; (with_reducible repeat (first | refine blk_drewN ?_ _ | refine blk_drew ?_ | refine blk_alloc ?_ _)); exact BK117.out⟩, ⟨by repeat (first | (with_reducible first | exact HB.out | apply below_alloc | apply pw_below_drewN | apply below_drew1 | refine below_set ?_ GE117.out) | exact HB.out)⟩⟩
                  case round =>
                    clear H'
                    try clear c1
                    try clear p2
                    try clear hcv2
                    try clear c7
                    try clear c9
                    try clear c9b0
                    try clear c10
                    try clear c11
                    try clear c11b0
                    try clear c11b1
                    try clear c12
                    try clear c12b0
                    try clear c12b1
                    try clear c13
                    try clear c13b0
                    try clear c13b1
                    try clear c13b2
                    try clear c14
                    try clear c14b0
                    try clear c15
                    try clear c15b0
                    try clear c16
                    try clear c16b0
                    try clear c16b1
                    try clear c16b2
                    try clear c19
                    try clear c19b0
                    try clear c19b1
                    try clear hcv23
                    try clear hcz28_0
                    try clear hfz28_0
                    try clear p2
                    obtain ⟨x15_2, rfl, HA, HK2, HO_118000, BK117, HB⟩ := hrel
                    cases gk with
                    | zero => exact absurd HA.out (by simp [proofmarklaw02_SynLexes.l0])
                    | succ k2 =>
                      have H := HA.out
                      clear HA
                      simp only [proofmarklaw02_SynLexes.l0] at H
                      by_cases c29 : x15_2 < (t111.length : Int)
                      · rw [if_pos c29] at H
                        have c29b0 : decide (x15_2 < (t111.length : Int)) = true := decide_eq_true c29
                        clear c29
                        by_cases c30 : 0 ≤ x15_2
                        · rw [if_pos c30] at H
                          have c30b0 : decide (0 ≤ x15_2) = true := decide_eq_true c30
                          clear c30
                          replace H := Option.bind_eq_some_iff.mp H
                          obtain ⟨⟨t123, t124, t125⟩, A310, H⟩ := H
                          replace H : (if t124 = 0 then (if (t123.length : Int) = 1 then (if 0 < (t123.length : Int) then (if ((rd_T37 t123 0).f0) = 1 then ((syn_Word.f ((rd_T47 t111 x15_2).f0)).bind fun t130 => (if t130 = true then (some false) else (if 0 < (((rd_T37 t123 0).f1).size : Int) then ((proofmarkref01_Letter.f (bt ((rd_T37 t123 0).f1) 0)).bind fun t132 => (if t132 = true then (proofmarklaw02_SynLexes.l0 k2 t101 (wrap64 (x15_2 + 1)) t111) else (some false))) else (none)))) else (some false)) else (none)) else (some false)) else (some false)) = some r := H
                          have A31 := Aside0.mk A310
                          clear A310
                          by_cases c32 : t124 = 0
                          · rw [if_pos c32] at H
                            have c32b0 : (t124 == 0) = true := beq_iff_eq.mpr c32
                            have c32b1 : (t124 != 0) = false := bne_eq_false_iff_eq.mpr c32
                            clear c32
                            by_cases c33 : (t123.length : Int) = 1
                            · rw [if_pos c33] at H
                              have c33b0 : ((t123.length : Int) == 1) = true := beq_iff_eq.mpr c33
                              have c33b1 : ((t123.length : Int) != 1) = false := bne_eq_false_iff_eq.mpr c33
                              clear c33
                              by_cases c34 : 0 < (t123.length : Int)
                              · rw [if_pos c34] at H
                                have c34b0 : decide (0 < (t123.length : Int)) = true := decide_eq_true c34
                                have c34b1 : decide (0 < t123.length) = true := decide_eq_true (by omega)
                                clear c34
                                by_cases c35 : ((rd_T37 t123 0).f0) = 1
                                · rw [if_pos c35] at H
                                  have c35b0 : (((rd_T37 t123 0).f0) == 1) = true := beq_iff_eq.mpr c35
                                  have c35b1 : (((rd_T37 t123 0).f0) != 1) = false := bne_eq_false_iff_eq.mpr c35
                                  clear c35
                                  replace H := Option.bind_eq_some_iff.mp H
                                  obtain ⟨t130, A360, H⟩ := H
                                  replace H : (if t130 = true then (some false) else (if 0 < (((rd_T37 t123 0).f1).size : Int) then ((proofmarkref01_Letter.f (bt ((rd_T37 t123 0).f1) 0)).bind fun t132 => (if t132 = true then (proofmarklaw02_SynLexes.l0 k2 t101 (wrap64 (x15_2 + 1)) t111) else (some false))) else (none))) = some r := H
                                  have A36 := Aside0.mk A360
                                  clear A360
                                  by_cases c37 : t130 = true
                                  · subst c37
                                    have H1 : (some false) = some r := by rw [if_pos rfl] at H; exact H
                                    exact absurd (Option.some.inj H1) (by rw [HRT.out]; decide)
                                  · replace c37 := Bool.eq_false_iff.mpr c37
                                    subst c37
                                    have H1 : (if 0 < (((rd_T37 t123 0).f1).size : Int) then ((proofmarkref01_Letter.f (bt ((rd_T37 t123 0).f1) 0)).bind fun t132 => (if t132 = true then (proofmarklaw02_SynLexes.l0 k2 t101 (wrap64 (x15_2 + 1)) t111) else (some false))) else (none)) = some r := by rw [if_neg (show ¬ (false = true) by decide)] at H; exact H
                                    clear H
                                    have H := H1
                                    clear H1
                                    by_cases c43 : 0 < (((rd_T37 t123 0).f1).size : Int)
                                    · rw [if_pos c43] at H
                                      have c43b0 : decide (0 < (((rd_T37 t123 0).f1).size : Int)) = true := decide_eq_true c43
                                      have c43b1 : decide (0 < ((rd_T37 t123 0).f1).size) = true := decide_eq_true (by omega)
                                      clear c43
                                      replace H := Option.bind_eq_some_iff.mp H
                                      obtain ⟨t132, A450, H⟩ := H
                                      replace H : (if t132 = true then (proofmarklaw02_SynLexes.l0 k2 t101 (wrap64 (x15_2 + 1)) t111) else (some false)) = some r := H
                                      have A45 := Aside0.mk A450
                                      clear A450
                                      by_cases c46 : t132 = true
                                      · subst c46
                                        have H1 : (proofmarklaw02_SynLexes.l0 k2 t101 (wrap64 (x15_2 + 1)) t111) = some r := by rw [if_pos rfl] at H; exact H
                                        clear H
                                        have H := H1
                                        clear H1
                                        have H' := Aside0.mk H
                                        clear H
                                        have hcz47_0 : wr.cell? ⟨gb117, 0, none⟩ = some (.slice Ao27 t111.length co27) := (blk_cell BK117.out 0).trans rfl
                                        have hfz47_0 := blk_frozen BK117.out 0
                                        have p122 : 0 ≤ (x15_2 : Int) := of_decide_eq_true (by first | (with_reducible assumption) | assumption)
                                        have q122 : x15_2 < (t111.length : Int) := of_decide_eq_true (by first | (with_reducible assumption) | assumption)
                                        obtain ⟨ad122, A122_1, c122_1, A122_2, c122_2, A122_3, c122_3, e122, hx122_0, hx122_1, hx122_2, hx122_3, hl122_1, hi122_1, hl122_2, hi122_2, hl122_3, hi122_3⟩ := at_T47 (Kd.R_reads' HO_118000.out).2.2 x15_2 p122 q122
                                        cases e122
                                        obtain ⟨ce122, hce122, hMe122, hcc122⟩ := Kd.R_get HO_118000.out z47 x15_2 p122 (by first | exact q122 | exact of_decide_eq_true (by first | (with_reducible assumption) | assumption) | (have e_ := (Kd.R_reads' HO_118000.out).1; omega))
                                        obtain ⟨ve122_1, ve122_2, ve122_3, rfl, ge122_1, ge122_2, ge122_3⟩ := k47_openM hMe122
                                        have hv122_1 := hcc122 1 _ rfl
                                        rw [add_field _ _ 1 (by omega)] at hv122_1
                                        replace hv122_1 := Option.some.inj (hv122_1.symm.trans hx122_1)
                                        rw [hv122_1] at ge122_1
                                        have HL122_1 := Aside0.mk (show Kd.R Kd.string 9 _ _ _ _ ((rd_T47 t111 x15_2).f1) from ge122_1)
                                        clear hv122_1 ge122_1
                                        have hv122_2 := hcc122 2 _ rfl
                                        rw [add_field _ _ 2 (by omega)] at hv122_2
                                        replace hv122_2 := Option.some.inj (hv122_2.symm.trans hx122_2)
                                        rw [hv122_2] at ge122_2
                                        have HL122_2 := Aside0.mk (show Kd.R k64 64 _ _ _ _ ((rd_T47 t111 x15_2).f2) from ge122_2)
                                        clear hv122_2 ge122_2
                                        have hv122_3 := hcc122 3 _ rfl
                                        rw [add_field _ _ 3 (by omega)] at hv122_3
                                        replace hv122_3 := Option.some.inj (hv122_3.symm.trans hx122_3)
                                        rw [hv122_3] at ge122_3
                                        have HL122_3 := Aside0.mk (show Kd.R k58 58 _ _ _ _ ((rd_T47 t111 x15_2).f3) from ge122_3)
                                        clear hv122_3 ge122_3
                                        clear hcc122 hce122
                                        have HR122_1 := Aside0.mk hi122_1
                                        have HC122_1 := Aside0.mk hl122_1
                                        clear hi122_1 hl122_1
                                        have HR122_2 := Aside0.mk hi122_2
                                        have HC122_2 := Aside0.mk hl122_2
                                        clear hi122_2 hl122_2
                                        have HR122_3 := Aside0.mk hi122_3
                                        have HC122_3 := Aside0.mk hl122_3
                                        clear hi122_3 hl122_3
                                        replace p122 := eq_true p122
                                        replace q122 := eq_true q122
                                        go_wp2_with (first | ((with_reducible refine gate_callee (f := 12) rfl ?_); refine goesL_ (some 84) rfl rfl Tryd.func12 (by kernel_rfl) rfl #[.string ((rd_T47 t111 x15_2).f0)] rfl (by (try simp only [List.map_toArray, List.map_cons, List.map_nil]); first | done | rfl | (simp only [List.length_drop, List.length_take]; rfl)) ?_; (with_reducible refine (lex_Lex.calls ((rd_T47 t111 x15_2).f0) t123 t124 t125 _ (by first | exact HG.out | (refine tab_below HG.out ?_; repeat (first | (with_reducible first | exact HB.out | apply below_alloc | apply pw_below_drewN | apply below_drew1 | refine below_set ?_ GE117.out) | exact HB.out)) | (refine tab_drawn HG.out ?_; repeat (first | exact Drawn0.refl _ | apply drawn_drewN | apply drawn_drew))) A31.out).mono ?_); rintro e w48 ⟨v126, rfl, ho0, hb⟩; refine ⟨_, rfl, ?_⟩; have n0_ := Aside0.mk (Kd.R_below (by (with_reducible repeat (first | apply Kd.R_alloc | apply Kd.R_drewN | apply Kd.R_drew)); exact HO_118000.out) hb); have n1_ := Aside0.mk (Kd.R_below (by (with_reducible repeat (first | apply Kd.R_alloc | apply Kd.R_drewN | apply Kd.R_drew)); exact HL122_1.out) hb); have n2_ := Aside0.mk (Kd.R_below (by (with_reducible repeat (first | apply Kd.R_alloc | apply Kd.R_drewN | apply Kd.R_drew)); exact HL122_2.out) hb); have n3_ := Aside0.mk (Kd.R_below (by (with_reducible repeat (first | apply Kd.R_alloc | apply Kd.R_drewN | apply Kd.R_drew)); exact HL122_3.out) hb); have n4_ := Aside0.mk (Kd.R_lower ho0 (below_size (by repeat (first | (with_reducible first | exact HB.out | apply below_alloc | apply pw_below_drewN | apply below_drew1 | refine below_set ?_ GE117.out) | exact HB.out)))); have n5_ := Aside0.mk (blk_below (g := gb117) (o := .cells #[.slice (some ad122) t111.length co27] 26 (0, 0)) (by (with_reducible repeat (first | refine blk_drewN ?_ _ | refine blk_drew ?_ | refine blk_alloc ?_ _)); exact BK117.out) hb); have n6_ := Aside0.mk (Kd.C_below (by repeat (first | (with_reducible exact HR122_1.out) | (with_reducible refine Kd.C_alloc ?_ _) | (with_reducible refine Kd.C_drewN ?_ _) | (with_reducible refine Kd.C_drew ?_) | exact HR122_1.out)) hb); have n7_ := Aside0.mk (Kd.C_below (by repeat (first | (with_reducible exact HR122_2.out) | (with_reducible refine Kd.C_alloc ?_ _) | (with_reducible refine Kd.C_drewN ?_ _) | (with_reducible refine Kd.C_drew ?_) | exact HR122_2.out)) hb); have n8_ := Aside0.mk (Kd.C_below (by repeat (first | (with_reducible exact HR122_3.out) | (with_reducible refine Kd.C_alloc ?_ _) | (with_reducible refine Kd.C_drewN ?_ _) | (with_reducible refine Kd.C_drew ?_) | exact HR122_3.out)) hb); have n9_ := Aside0.mk (below_step (by repeat (first | (with_reducible first | exact HB.out | apply below_alloc | apply pw_below_drewN | apply below_drew1 | refine below_set ?_ GE117.out) | exact HB.out)) hb); clear HO_118000; clear HL122_1; clear HL122_2; clear HL122_3; clear BK117; clear HR122_1; clear HR122_2; clear HR122_3; clear HB; have HO_118000 := n0_; have HL122_1 := n1_; have HL122_2 := n2_; have HL122_3 := n3_; have HO127 := n4_; have BK117 := n5_; have HR122_1 := n6_; have HR122_2 := n7_; have HR122_3 := n8_; have HB := n9_; clear n0_ n1_ n2_ n3_ n4_ n5_ n6_ n7_ n8_ n9_; (try clear hb); (try clear hb2); (try clear hk); (try clear hi); (try clear ho0); obtain ⟨Ao49, co49, eo49⟩ := Kd.R_slice HO127.out; subst eo49; have p128 : 0 ≤ (0 : Int) := (by omega); have q128 : 0 < (t123.length : Int) := of_decide_eq_true (by first | (with_reducible assumption) | assumption); obtain ⟨ad128, e128, hx128_0, hx128_1, hx128_2, hx128_3⟩ := at_T37 (Kd.R_reads' HO127.out).2.2 0 p128 q128; cases e128; have qi128 : (0 < t123.length) = True := eq_true (by omega); (try rw [show ((0 : Int)).toNat = 0 from rfl] at hx128_0); (try rw [show 0 * 4 = 0 from rfl] at hx128_0); (try rw [Addr.add_zero'] at hx128_0); (try rw [show ((0 : Int)).toNat = 0 from rfl] at hx128_1); (try rw [show 0 * 4 = 0 from rfl] at hx128_1); (try rw [Addr.add_zero'] at hx128_1); (try rw [show ((0 : Int)).toNat = 0 from rfl] at hx128_2); (try rw [show 0 * 4 = 0 from rfl] at hx128_2); (try rw [Addr.add_zero'] at hx128_2); (try rw [show ((0 : Int)).toNat = 0 from rfl] at hx128_3); (try rw [show 0 * 4 = 0 from rfl] at hx128_3); (try rw [Addr.add_zero'] at hx128_3); replace p128 := eq_true p128; replace q128 := eq_true q128; have hcz50_0 : w48.cell? ⟨gb117, 0, none⟩ = some (.slice (some ad122) t111.length co27) := (blk_cell BK117.out 0).trans rfl; have hfz50_0 := blk_frozen BK117.out 0; have p129 : 0 ≤ (x15_2 : Int) := of_decide_eq_true (by first | (with_reducible assumption) | assumption); have q129 : x15_2 < (t111.length : Int) := of_decide_eq_true (by first | (with_reducible assumption) | assumption); obtain ⟨ad129, A129_1, c129_1, A129_2, c129_2, A129_3, c129_3, e129, hx129_0, hx129_1, hx129_2, hx129_3, hl129_1, hi129_1, hl129_2, hi129_2, hl129_3, hi129_3⟩ := at_T47 (Kd.R_reads' HO_118000.out).2.2 x15_2 p129 q129; obtain rfl : ad122 = ad129 := (by injection e129); obtain ⟨ce129, hce129, hMe129, hcc129⟩ := Kd.R_get HO_118000.out z47 x15_2 p129 (by first | exact q129 | exact of_decide_eq_true (by first | (with_reducible assumption) | assumption) | (have e_ := (Kd.R_reads' HO_118000.out).1; omega)); obtain ⟨ve129_1, ve129_2, ve129_3, rfl, ge129_1, ge129_2, ge129_3⟩ := k47_openM hMe129; have hv129_1 := hcc129 1 _ rfl; rw [add_field _ _ 1 (by omega)] at hv129_1; replace hv129_1 := Option.some.inj (hv129_1.symm.trans hx129_1); rw [hv129_1] at ge129_1; have HL129_1 := Aside0.mk (show Kd.R Kd.string 9 _ _ _ _ ((rd_T47 t111 x15_2).f1) from ge129_1); clear hv129_1 ge129_1; have hv129_2 := hcc129 2 _ rfl; rw [add_field _ _ 2 (by omega)] at hv129_2; replace hv129_2 := Option.some.inj (hv129_2.symm.trans hx129_2); rw [hv129_2] at ge129_2; have HL129_2 := Aside0.mk (show Kd.R k64 64 _ _ _ _ ((rd_T47 t111 x15_2).f2) from ge129_2); clear hv129_2 ge129_2; have hv129_3 := hcc129 3 _ rfl; rw [add_field _ _ 3 (by omega)] at hv129_3; replace hv129_3 := Option.some.inj (hv129_3.symm.trans hx129_3); rw [hv129_3] at ge129_3; have HL129_3 := Aside0.mk (show Kd.R k58 58 _ _ _ _ ((rd_T47 t111 x15_2).f3) from ge129_3); clear hv129_3 ge129_3; clear hcc129 hce129; have HR129_1 := Aside0.mk hi129_1; have HC129_1 := Aside0.mk hl129_1; clear hi129_1 hl129_1; have HR129_2 := Aside0.mk hi129_2; have HC129_2 := Aside0.mk hl129_2; clear hi129_2 hl129_2; have HR129_3 := Aside0.mk hi129_3; have HC129_3 := Aside0.mk hl129_3; clear hi129_3 hl129_3; replace p129 := eq_true p129; replace q129 := eq_true q129) | (go_at_call 18; (with_reducible refine (syn_Word.calls ((rd_T47 t111 x15_2).f0) false _ (by first | exact HG.out | (refine tab_below HG.out ?_; repeat (first | (with_reducible first | exact HB.out | apply below_alloc | apply pw_below_drewN | apply below_drew1 | refine below_set ?_ GE117.out) | exact HB.out)) | (refine tab_drawn HG.out ?_; repeat (first | exact Drawn0.refl _ | apply drawn_drewN | apply drawn_drew))) A36.out).mono ?_); rintro e w51 ⟨rfl, hb⟩; have n0_ := Aside0.mk (Kd.R_below (by (with_reducible repeat (first | apply Kd.R_alloc | apply Kd.R_drewN | apply Kd.R_drew)); exact HO_118000.out) hb); have n1_ := Aside0.mk (Kd.R_below (by (with_reducible repeat (first | apply Kd.R_alloc | apply Kd.R_drewN | apply Kd.R_drew)); exact HL122_1.out) hb); have n2_ := Aside0.mk (Kd.R_below (by (with_reducible repeat (first | apply Kd.R_alloc | apply Kd.R_drewN | apply Kd.R_drew)); exact HL122_2.out) hb); have n3_ := Aside0.mk (Kd.R_below (by (with_reducible repeat (first | apply Kd.R_alloc | apply Kd.R_drewN | apply Kd.R_drew)); exact HL122_3.out) hb); have n4_ := Aside0.mk (Kd.R_below (by (with_reducible repeat (first | apply Kd.R_alloc | apply Kd.R_drewN | apply Kd.R_drew)); exact HO127.out) hb); have n5_ := Aside0.mk (Kd.R_below (by (with_reducible repeat (first | apply Kd.R_alloc | apply Kd.R_drewN | apply Kd.R_drew)); exact HL129_1.out) hb); have n6_ := Aside0.mk (Kd.R_below (by (with_reducible repeat (first | apply Kd.R_alloc | apply Kd.R_drewN | apply Kd.R_drew)); exact HL129_2.out) hb); have n7_ := Aside0.mk (Kd.R_below (by (with_reducible repeat (first | apply Kd.R_alloc | apply Kd.R_drewN | apply Kd.R_drew)); exact HL129_3.out) hb); have n8_ := Aside0.mk (blk_below (g := gb117) (o := .cells #[.slice (some ad122) t111.length co27] 26 (0, 0)) (by (with_reducible repeat (first | refine blk_drewN ?_ _ | refine blk_drew ?_ | refine blk_alloc ?_ _)); exact BK117.out) hb); have n9_ := Aside0.mk (Kd.C_below (by repeat (first | (with_reducible exact HR122_1.out) | (with_reducible refine Kd.C_alloc ?_ _) | (with_reducible refine Kd.C_drewN ?_ _) | (with_reducible refine Kd.C_drew ?_) | exact HR122_1.out)) hb); have n10_ := Aside0.mk (Kd.C_below (by repeat (first | (with_reducible exact HR122_2.out) | (with_reducible refine Kd.C_alloc ?_ _) | (with_reducible refine Kd.C_drewN ?_ _) | (with_reducible refine Kd.C_drew ?_) | exact HR122_2.out)) hb); have n11_ := Aside0.mk (Kd.C_below (by repeat (first | (with_reducible exact HR122_3.out) | (with_reducible refine Kd.C_alloc ?_ _) | (with_reducible refine Kd.C_drewN ?_ _) | (with_reducible refine Kd.C_drew ?_) | exact HR122_3.out)) hb); have n12_ := Aside0.mk (Kd.C_below (by repeat (first | (with_reducible exact HR129_1.out) | (with_reducible refine Kd.C_alloc ?_ _) | (with_reducible refine Kd.C_drewN ?_ _) | (with_reducible refine Kd.C_drew ?_) | exact HR129_1.out)) hb); have n13_ := Aside0.mk (Kd.C_below (by repeat (first | (with_reducible exact HR129_2.out) | (with_reducible refine Kd.C_alloc ?_ _) | (with_reducible refine Kd.C_drewN ?_ _) | (with_reducible refine Kd.C_drew ?_) | exact HR129_2.out)) hb); have n14_ := Aside0.mk (Kd.C_below (by repeat (first | (with_reducible exact HR129_3.out) | (with_reducible refine Kd.C_alloc ?_ _) | (with_reducible refine Kd.C_drewN ?_ _) | (with_reducible refine Kd.C_drew ?_) | exact HR129_3.out)) hb); have n15_ := Aside0.mk (below_step (by repeat (first | (with_reducible first | exact HB.out | apply below_alloc | apply pw_below_drewN | apply below_drew1 | refine below_set ?_ GE117.out) | exact HB.out)) hb); clear HO_118000; clear HL122_1; clear HL122_2; clear HL122_3; clear HO127; clear HL129_1; clear HL129_2; clear HL129_3; clear BK117; clear HR122_1; clear HR122_2; clear HR122_3; clear HR129_1; clear HR129_2; clear HR129_3; clear HB; have HO_118000 := n0_; have HL122_1 := n1_; have HL122_2 := n2_; have HL122_3 := n3_; have HO127 := n4_; have HL129_1 := n5_; have HL129_2 := n6_; have HL129_3 := n7_; have BK117 := n8_; have HR122_1 := n9_; have HR122_2 := n10_; have HR122_3 := n11_; have HR129_1 := n12_; have HR129_2 := n13_; have HR129_3 := n14_; have HB := n15_; clear n0_ n1_ n2_ n3_ n4_ n5_ n6_ n7_ n8_ n9_ n10_ n11_ n12_ n13_ n14_ n15_; (try clear hb); (try clear hb2); (try clear hk); (try clear hi); have p131 : 0 ≤ (0 : Int) := (by omega); have q131 : 0 < (t123.length : Int) := of_decide_eq_true (by first | (with_reducible assumption) | assumption); obtain ⟨ad131, e131, hx131_0, hx131_1, hx131_2, hx131_3⟩ := at_T37 (Kd.R_reads' HO127.out).2.2 0 p131 q131; obtain rfl : ad128 = ad131 := (by injection e131); have qi131 : (0 < t123.length) = True := eq_true (by omega); (try rw [show ((0 : Int)).toNat = 0 from rfl] at hx131_0); (try rw [show 0 * 4 = 0 from rfl] at hx131_0); (try rw [Addr.add_zero'] at hx131_0); (try rw [show ((0 : Int)).toNat = 0 from rfl] at hx131_1); (try rw [show 0 * 4 = 0 from rfl] at hx131_1); (try rw [Addr.add_zero'] at hx131_1); (try rw [show ((0 : Int)).toNat = 0 from rfl] at hx131_2); (try rw [show 0 * 4 = 0 from rfl] at hx131_2); (try rw [Addr.add_zero'] at hx131_2); (try rw [show ((0 : Int)).toNat = 0 from rfl] at hx131_3); (try rw [show 0 * 4 = 0 from rfl] at hx131_3); (try rw [Addr.add_zero'] at hx131_3); replace p131 := eq_true p131; replace q131 := eq_true q131; have p44 : 0 ≤ (0 : Int) := (by omega); have q44 : 0 < ((rd_T37 t123 0).f1).size := (by have : (0 : Int) < (((rd_T37 t123 0).f1).size : Int) := of_decide_eq_true (by first | (with_reducible assumption) | assumption); omega); have hx44 : ∀ h : 0 < ((rd_T37 t123 0).f1).size, ((((rd_T37 t123 0).f1)[0]'h).toNat : Int) = bt ((rd_T37 t123 0).f1) 0 := bt_at ((rd_T37 t123 0).f1) 0; clear p44; have qi44 : (0 < (((rd_T37 t123 0).f1).size : Int)) = True := eq_true (of_decide_eq_true (by first | (with_reducible assumption) | assumption)); replace q44 := eq_true q44) | (go_at_call 19; (with_reducible refine (proofmarkref01_Letter.calls (bt ((rd_T37 t123 0).f1) 0) true _ A45.out).mono ?_); rintro e w' ⟨rfl, ⟨nd, rfl⟩⟩))
                                        go_roundg k2
                                        case measure => have := HJ5.out; have := HK2.out; omega
                                        case rel => exact ⟨(wrap64 (x15_2 + 1)), (by first | rfl | (simp; done) | (simp [*]; done)), H', ⟨by have := HJ5.out; have := HK2.out; omega⟩, ⟨by (with_reducible repeat (first | apply Kd.R_alloc | apply Kd.R_drewN | apply Kd.R_drew)); exact HO_118000.out⟩, ⟨by (with_reducible repeat (first | refine blk_drewN ?_ _ | refine blk_drew ?_ | refine blk_alloc ?_ _)); exact BK117.out⟩, ⟨by repeat (first | (with_reducible first | exact HB.out | apply below_alloc | apply pw_below_drewN | apply below_drew1 | refine below_set ?_ GE117.out) | exact HB.out)⟩⟩
                                      · replace c46 := Bool.eq_false_iff.mpr c46
                                        subst c46
                                        have H1 : (some false) = some r := by rw [if_neg (show ¬ (false = true) by decide)] at H; exact H
                                        exact absurd (Option.some.inj H1) (by rw [HRT.out]; decide)
                                    · rw [if_neg c43] at H
                                      exact absurd H (by simp)
                                · rw [if_neg c35] at H; exact absurd (Option.some.inj H) (by rw [HRT.out]; decide)
                              · rw [if_neg c34] at H
                                exact absurd H (by simp)
                            · rw [if_neg c33] at H; exact absurd (Option.some.inj H) (by rw [HRT.out]; decide)
                          · rw [if_neg c32] at H; exact absurd (Option.some.inj H) (by rw [HRT.out]; decide)
                        · rw [if_neg c30] at H
                          exact absurd H (by simp)
                      · rw [if_neg c29] at H
                        have c29b0 : decide (x15_2 < (t111.length : Int)) = false := decide_eq_false c29
                        clear c29
                        obtain rfl := Option.some.inj H
                        have hcz65_0 : wr.cell? ⟨gb117, 0, none⟩ = some (.slice Ao27 t111.length co27) := (blk_cell BK117.out 0).trans rfl
                        have hfz65_0 := blk_frozen BK117.out 0
                        go_wp2
                        go_ret
                        exact ⟨by first | rfl | (simp [errW_none, errW_some] <;> rfl) | (simp [*, errW_none, errW_some] <;> rfl), by repeat (first | (with_reducible first | exact HB.out | apply below_alloc | apply pw_below_drewN | apply below_drew1 | refine below_set ?_ GE117.out) | exact HB.out)⟩
                · rw [if_neg c19] at H
                  have c19b0 : (t107 == 0) = false := beq_eq_false_iff_ne.mpr c19
                  have c19b1 : (t107 != 0) = true := bne_iff_ne.mpr c19
                  by_cases c66 : t101 = true
                  · subst c66
                    have H1 : (if (t111.length : Int) = 0 then ((proofmarkref02_SameFaults.f t114 (([(⟨t107, t108, 0, 0⟩ : S35)] : List (S35)))).bind fun t121 => (some t121)) else (some false)) = some r := by rw [if_pos rfl] at H; exact H
                    clear H
                    have H := H1
                    clear H1
                    by_cases c67 : (t111.length : Int) = 0
                    · rw [if_pos c67] at H
                      have c67b0 : ((t111.length : Int) == 0) = true := beq_iff_eq.mpr c67
                      have c67b1 : ((t111.length : Int) != 0) = false := bne_eq_false_iff_eq.mpr c67
                      clear c67
                      obtain ⟨y118, hy118⟩ : ∃ y_ : List (S35), y_ = (([(⟨t107, t108, 0, 0⟩ : S35)] : List (S35))) := ⟨_, rfl⟩
                      replace H : ((proofmarkref02_SameFaults.f t114 y118).bind fun t121 => (some t121)) = some r := by first | (rw [hy118]; with_reducible exact H) | (have H2_ := (Option.bind_some _ _).symm.trans H; rw [hy118]; with_reducible exact H2_) | (have H2_ := (Option.bind_some _ _).symm.trans H; with_reducible exact H2_) | with_reducible exact H | (rw [hy118]; exact H) | exact H
                      have Ny118 := Aside0.mk hy118
                      clear hy118
                      replace H := Option.bind_eq_some_iff.mp H
                      obtain ⟨t121, A680, H⟩ := H
                      replace H : (some t121) = some r := H
                      have A68 := Aside0.mk A680
                      clear A680
                      obtain rfl := Option.some.inj H
                      try go_wp2
                      have n0_ := Aside0.mk (below_drew1 HB.out)
                      clear HB
                      have HB := n0_
                      clear n0_
                      refine start_ (n := 12) (S := fun w' => True) (ds := []) #[false, false, false, false, false, false, false, false, false, false, false, false] (by kernel_rfl) rfl rfl trivial (fun hHeld => ?_); refine with_tabW proofmarklaw02_SynLexes.tab5 proofmarklaw02_SynLexes.bits5 (fun HT_ HW_ => ?_)
                      generalize wc.drew = w69 at HB hHeld ⊢
                      refine pure_ (i := 0) (N := some 31) (v := ?_) (a' := ?_) #[true, false, false, false, false, false, false, false, false, false, false, false] rfl rfl (any_of HT_.out (by kernel_rfl)) (fun _ _ _ h => h) (Or.inl ⟨by rfl, ?_⟩) ?_ ?_
                      rotate_left
                      · intro w'
                        go_simp
                        with_reducible rfl
                      rotate_left
                      · simp only [Act.put, List.setIfInBounds_toArray, List.set_cons_zero, List.set_cons_succ, i64_w, i32_w]
                        rfl
                      refine pure_ (i := 1) (N := some 32) (v := ?_) (a' := ?_) #[true, true, false, false, false, false, false, false, false, false, false, false] rfl rfl (any_of HT_.out (by kernel_rfl)) (fun _ _ _ h => h) (Or.inl ⟨by rfl, ?_⟩) ?_ ?_
                      rotate_left
                      · intro w'
                        go_simp
                        with_reducible rfl
                      rotate_left
                      · simp only [Act.put, List.setIfInBounds_toArray, List.set_cons_zero, List.set_cons_succ, i64_w, i32_w]
                        rfl
                      refine pure_ (i := 2) (N := some 33) (v := ?_) (a' := ?_) #[true, true, true, false, false, false, false, false, false, false, false, false] rfl rfl (any_of HT_.out (by kernel_rfl)) (fun _ _ _ h => h) (Or.inl ⟨by rfl, ?_⟩) ?_ ?_
                      rotate_left
                      · intro w'
                        go_simp
                        with_reducible rfl
                      rotate_left
                      · simp only [Act.put, List.setIfInBounds_toArray, List.set_cons_zero, List.set_cons_succ, i64_w, i32_w]
                        rfl
                      refine pure_ (i := 3) (N := some 34) (v := ?_) (a' := ?_) #[true, true, true, true, false, false, false, false, false, false, false, false] rfl rfl (any_of HT_.out (by kernel_rfl)) (fun _ _ _ h => h) (Or.inl ⟨by rfl, ?_⟩) ?_ ?_
                      rotate_left
                      · intro w'
                        go_simp
                        with_reducible rfl
                      rotate_left
                      · simp only [Act.put, List.setIfInBounds_toArray, List.set_cons_zero, List.set_cons_succ, i64_w, i32_w]
                        rfl
                      refine pure_ (i := 7) (N := some 38) (v := ?_) (a' := ?_) #[true, true, true, true, false, false, false, true, false, false, false, false] rfl rfl (any_of HT_.out (by kernel_rfl)) (fun _ _ _ h => h) (Or.inl ⟨by rfl, ?_⟩) ?_ ?_
                      rotate_left
                      · intro w'
                        go_simp
                        with_reducible rfl
                      rotate_left
                      · simp only [Act.put, List.setIfInBounds_toArray, List.set_cons_zero, List.set_cons_succ, i64_w, i32_w]
                        rfl
                      refine pure_ (i := 8) (N := some 39) (v := ?_) (a' := ?_) #[true, true, true, true, false, false, false, true, true, false, false, false] rfl rfl (any_of HT_.out (by kernel_rfl)) (fun _ _ _ h => h) (Or.inl ⟨by rfl, ?_⟩) ?_ ?_
                      rotate_left
                      · intro w'
                        go_simp
                        with_reducible rfl
                      rotate_left
                      · simp only [Act.put, List.setIfInBounds_toArray, List.set_cons_zero, List.set_cons_succ, i64_w, i32_w]
                        rfl
                      refine pure_ (i := 9) (N := some 40) (v := ?_) (a' := ?_) #[true, true, true, true, false, false, false, true, true, true, false, false] rfl rfl (any_of HT_.out (by kernel_rfl)) (fun _ _ _ h => h) (Or.inl ⟨by rfl, ?_⟩) ?_ ?_
                      rotate_left
                      · intro w'
                        go_simp
                        with_reducible rfl
                      rotate_left
                      · simp only [Act.put, List.setIfInBounds_toArray, List.set_cons_zero, List.set_cons_succ, i64_w, i32_w]
                        rfl
                      refine one_ (i := 4) (N := some 35) #[true, true, true, true, true, false, false, true, true, true, false, false] rfl rfl (one_of HT_.out (by kernel_rfl)) (by decide) (fun K hK => ?_)
                      refine Kd.R_lit_step (Kd.int .u8) _ 5 ?hg (N := 35) ?hd (xs := ([a2] : List Int)) (inner := [.int .u8 a2]) (ok := fun _ => True) (okp := fun _ => True) ?hr ?hp (fun _ hk => hk) trivial (Below.refl _ _) (Nat.le_refl _) (by simp) ?_; (case hd => rfl); (case hg => rfl); (case hr => first | (go_simp; done) | (go_simp; rfl)); (case hp => exact (Reps.one (show Kd.M (Kd.int .u8) _ _ _ a2 [.int .u8 a2] from rfl) (Reps.none _ _)))
                      intro v104 w70 ho71 hb hg_ hnew_
                      clear hg_ hnew_
                      (first | rw [← Ny103.out] at ho71 | (simp only [Int.reduceToNat] at ho71; rw [← Ny103.out] at ho71))
                      have n0_ := Aside0.mk (Kd.R_lower ho71 (below_size (by repeat (first | (with_reducible first | exact HB.out | apply below_alloc | apply pw_below_drewN | apply below_drew1) | exact HB.out))))
                      have n1_ := Aside0.mk (below_step (by repeat (first | (with_reducible first | exact HB.out | apply below_alloc | apply pw_below_drewN | apply below_drew1) | exact HB.out)) hb)
                      clear HB
                      have HO105 := n0_
                      have HB := n1_
                      clear n0_ n1_
                      clear hb ho71
                      refine hK.out _ _ trivial (fun hHeld => ?_)
                      clear hK K
                      refine norm_ (a' := ?_) ?_ ?_
                      rotate_left
                      · show Act.put _ (some 35) _ = _
                        simp only [Act.put, List.setIfInBounds_toArray, List.set_cons_zero, List.set_cons_succ, i64_w, i32_w]
                        rfl
                      refine one_ (i := 5) (N := some 36) #[true, true, true, true, true, true, false, true, true, true, false, false] rfl rfl (one_of HT_.out (by kernel_rfl)) (by decide) (fun K hK => ?_)
                      have hcv72 := own_string (P := Tryd.prog) Tryd.underlying59 Tryd.underlying5 Tryd.underlying9 (Kd.own_of_R HO105.out)
                      refine value_ (w1 := ?_) (v := ?_) (by rfl) rfl ?_ ?_
                      rotate_left 2
                      · go_simp
                        constructor
                        · rfl
                        · rfl
                      clear hcv72
                      refine hK.out _ _ trivial (fun hHeld => ?_)
                      clear hK K
                      refine norm_ (a' := ?_) ?_ ?_
                      rotate_left
                      · show Act.put _ (some 36) _ = _
                        simp only [Act.put, List.setIfInBounds_toArray, List.set_cons_zero, List.set_cons_succ, i64_w, i32_w]
                        rfl
                      refine pure_ (i := 6) (N := some 37) (v := ?_) (a' := ?_) #[true, true, true, true, true, true, true, true, true, true, false, false] rfl rfl (any_of HT_.out (by kernel_rfl)) (fun _ _ _ h => h) (Or.inl ⟨by rfl, ?_⟩) ?_ ?_
                      rotate_left
                      · intro w'
                        go_simp
                        with_reducible rfl
                      rotate_left
                      · simp only [Act.put, List.setIfInBounds_toArray, List.set_cons_zero, List.set_cons_succ, i64_w, i32_w]
                        rfl
                      refine pure_ (i := 10) (N := some 41) (v := ?_) (a' := ?_) #[true, true, true, true, true, true, true, true, true, true, true, false] rfl rfl (any_of HT_.out (by kernel_rfl)) (fun _ _ _ h => h) (Or.inl ⟨by rfl, ?_⟩) ?_ ?_
                      rotate_left
                      · intro w'
                        go_simp
                        with_reducible rfl
                      rotate_left
                      · simp only [Act.put, List.setIfInBounds_toArray, List.set_cons_zero, List.set_cons_succ, i64_w, i32_w]
                        rfl
                      refine pure_ (i := 11) (N := some 9) (v := ?_) (a' := ?_) #[true, true, true, true, true, true, true, true, true, true, true, true] rfl rfl (any_of HT_.out (by kernel_rfl)) (fun _ _ _ h => h) (Or.inl ⟨by rfl, ?_⟩) ?_ ?_
                      rotate_left
                      · intro w'
                        go_simp
                        with_reducible rfl
                      rotate_left
                      · simp only [Act.put, List.setIfInBounds_toArray, List.set_cons_zero, List.set_cons_succ, i64_w, i32_w]
                        rfl
                      refine done_ (done_of HT_.out (by kernel_rfl)) ?_
                      try go_wp2_with (first | ((with_reducible refine gate_callee (f := 12) rfl ?_); refine goesL_ (some 44) rfl rfl Tryd.func12 (by kernel_rfl) rfl #[.string (((t102.extract 0 (a1 : Int).toNat) ++ (strOfNums y103)) ++ (t102.extract (a1 : Int).toNat t102.size))] rfl (by (try simp only [List.map_toArray, List.map_cons, List.map_nil]); first | done | rfl | (simp only [List.length_drop, List.length_take]; rfl)) ?_; (with_reducible refine (lex_Lex.calls (((t102.extract 0 (a1 : Int).toNat) ++ (strOfNums y103)) ++ (t102.extract (a1 : Int).toNat t102.size)) t106 t107 t108 _ (by first | exact HG.out | (refine tab_below HG.out ?_; repeat (first | (with_reducible first | exact HB.out | apply below_alloc | apply pw_below_drewN | apply below_drew1 | refine below_set ?_ GE117.out) | exact HB.out)) | (refine tab_drawn HG.out ?_; repeat (first | exact Drawn0.refl _ | apply drawn_drewN | apply drawn_drew))) A17.out).mono ?_); rintro e w73 ⟨v109, rfl, ho0, hb⟩; refine ⟨_, rfl, ?_⟩; have n0_ := Aside0.mk (Kd.R_below (by (with_reducible repeat (first | apply Kd.R_alloc | apply Kd.R_drewN | apply Kd.R_drew)); exact HO105.out) hb); have n1_ := Aside0.mk (Kd.R_lower ho0 (below_size (by repeat (first | (with_reducible first | exact HB.out | apply below_alloc | apply pw_below_drewN | apply below_drew1) | exact HB.out)))); have n2_ := Aside0.mk (below_step (by repeat (first | (with_reducible first | exact HB.out | apply below_alloc | apply pw_below_drewN | apply below_drew1) | exact HB.out)) hb); clear HO105; clear HB; have HO105 := n0_; have HO110 := n1_; have HB := n2_; clear n0_ n1_ n2_; (try clear hb); (try clear hb2); (try clear hk); (try clear hi); (try clear ho0)) | ((with_reducible refine gate_callee (f := 11) rfl ?_); refine goesL_ (some 50) rfl rfl Tryd.func11 (by kernel_rfl) rfl #[.string (((t102.extract 0 (a1 : Int).toNat) ++ (strOfNums y103)) ++ (t102.extract (a1 : Int).toNat t102.size))] rfl (by (try simp only [List.map_toArray, List.map_cons, List.map_nil]); first | done | rfl | (simp only [List.length_drop, List.length_take]; rfl)) ?_; (with_reducible refine (syn_Parse.calls (((t102.extract 0 (a1 : Int).toNat) ++ (strOfNums y103)) ++ (t102.extract (a1 : Int).toNat t102.size)) t111 t114 _ (by first | exact HG.out | (refine tab_below HG.out ?_; repeat (first | (with_reducible first | exact HB.out | apply below_alloc | apply pw_below_drewN | apply below_drew1 | refine below_set ?_ GE117.out) | exact HB.out)) | (refine tab_drawn HG.out ?_; repeat (first | exact Drawn0.refl _ | apply drawn_drewN | apply drawn_drew))) A18.out).mono ?_); rintro e w74 ⟨v112, v115, rfl, ho0, ho1, hb⟩; refine ⟨_, rfl, ?_⟩; have n0_ := Aside0.mk (Kd.R_below (by (with_reducible repeat (first | apply Kd.R_alloc | apply Kd.R_drewN | apply Kd.R_drew)); exact HO105.out) hb); have n1_ := Aside0.mk (Kd.R_below (by (with_reducible repeat (first | apply Kd.R_alloc | apply Kd.R_drewN | apply Kd.R_drew)); exact HO110.out) hb); have n2_ := Aside0.mk (Kd.R_lower ho0 (below_size (by repeat (first | (with_reducible first | exact HB.out | apply below_alloc | apply pw_below_drewN | apply below_drew1) | exact HB.out)))); have n3_ := Aside0.mk (Kd.R_lower ho1 (below_size (by repeat (first | (with_reducible first | exact HB.out | apply below_alloc | apply pw_below_drewN | apply below_drew1) | exact HB.out)))); have n4_ := Aside0.mk (below_step (by repeat (first | (with_reducible first | exact HB.out | apply below_alloc | apply pw_below_drewN | apply below_drew1) | exact HB.out)) hb); clear HO105; clear HO110; clear HB; have HO105 := n0_; have HO110 := n1_; have HO113 := n2_; have HO116 := n3_; have HB := n4_; clear n0_ n1_ n2_ n3_ n4_; (try clear hb); (try clear hb2); (try clear hk); (try clear hi); (try clear ho0); (try clear ho1)) | ((with_reducible refine gate_dst (N := 13) rfl ?_); (try (refine gate_guard (by rfl) ?_; dsimp only)); refine box_event ?hg (N := 13) ?hd (cs := #[.slice none 0 0]) (t := 26) ?hr ?_; (case hd => rfl); (case hg => rfl); (case hr => first | (go_simp; done) | (go_simp; rfl)); intro gb117 hg w75 hbox hb; have n0_ := Aside0.mk (Kd.R_below (by (with_reducible repeat (first | apply Kd.R_alloc | apply Kd.R_drewN | apply Kd.R_drew)); exact HO105.out) hb); have n1_ := Aside0.mk (Kd.R_below (by (with_reducible repeat (first | apply Kd.R_alloc | apply Kd.R_drewN | apply Kd.R_drew)); exact HO110.out) hb); have n2_ := Aside0.mk (Kd.R_below (by (with_reducible repeat (first | apply Kd.R_alloc | apply Kd.R_drewN | apply Kd.R_drew)); exact HO113.out) hb); have n3_ := Aside0.mk (Kd.R_below (by (with_reducible repeat (first | apply Kd.R_alloc | apply Kd.R_drewN | apply Kd.R_drew)); exact HO116.out) hb); have n4_ := Aside0.mk (below_step (by repeat (first | (with_reducible first | exact HB.out | apply below_alloc | apply pw_below_drewN | apply below_drew1) | exact HB.out)) hb); have n5_ := Aside0.mk (hbox); have n6_ := Aside0.mk ((by rw [hg]; exact (below_size (by repeat (first | (with_reducible first | exact HB.out | apply below_alloc | apply pw_below_drewN | apply below_drew1) | exact HB.out))) : w.heap.size ≤ gb117)); have n7_ := Aside0.mk ((by rw [hg]; exact (below_size (by repeat (first | (with_reducible first | exact HB.out | apply below_alloc | apply pw_below_drewN | apply below_drew1) | exact HB.out))) : w.heap.size ≤ gb117)); clear HO105; clear HO110; clear HO113; clear HO116; clear HB; have HO105 := n0_; have HO110 := n1_; have HO113 := n2_; have HO116 := n3_; have HB := n4_; have BK117 := n5_; have GW117 := n6_; have GE117 := n7_; clear n0_ n1_ n2_ n3_ n4_ n5_ n6_ n7_; clear hb hbox hg; obtain ⟨Ao76, co76, eo76⟩ := Kd.R_slice HO113.out; subst eo76; have hcz77_0 : w75.cell? ⟨gb117, 0, none⟩ = some (.slice none 0 0) := (blk_cell BK117.out 0).trans rfl; have hfz77_0 := blk_frozen BK117.out 0) | ((with_reducible refine gate_dst (N := 67) rfl ?_); (try (refine gate_guard (by rfl) ?_; dsimp only)); refine Kd.R_lit k35 _ 35 ?hg (N := 67) ?hd (xs := ([(⟨t107, t108, 0, 0⟩ : S35)] : List (S35))) (inner := [.int .i64 t107, .int .i64 t108, .int .i64 0, .int .i64 0]) (ok := fun _ => True) (okp := fun _ => True) ?hr ?hp (fun _ hk => hk) trivial (Below.refl _ _) (Nat.le_refl _) (by simp) ?_; (case hd => rfl); (case hg => rfl); (case hr => first | (go_simp; done) | (go_simp; rfl)); (case hp => exact (Reps.c4 (show Kd.M k35 _ _ _ (⟨t107, t108, 0, 0⟩ : S35) [.int .i64 t107, .int .i64 t108, .int .i64 0, .int .i64 0] from (k35_mkM _ _ _ (⟨t107, t108, 0, 0⟩ : S35) )) (Reps.none _ _))); intro v119 w78 ho79 hb hg_ hnew_; clear hg_ hnew_; (first | rw [← Ny118.out] at ho79 | (simp only [Int.reduceToNat] at ho79; rw [← Ny118.out] at ho79)); have n0_ := Aside0.mk (Kd.R_below (by (with_reducible repeat (first | apply Kd.R_alloc | apply Kd.R_drewN | apply Kd.R_drew)); exact (Kd.R_mono (Kd.R_far (p := ⟨gb117, 0, none⟩) (Kd.R_types HO105.out BK117.out (by decide)) (fun _ hk => hk.2) (.slice Ao76 t111.length co76)) (fun _ h_ => h_.1))) hb); have n1_ := Aside0.mk (Kd.R_below (by (with_reducible repeat (first | apply Kd.R_alloc | apply Kd.R_drewN | apply Kd.R_drew)); exact (Kd.R_mono (Kd.R_far (p := ⟨gb117, 0, none⟩) (Kd.R_types HO110.out BK117.out (by decide)) (fun _ hk => hk.2) (.slice Ao76 t111.length co76)) (fun _ h_ => h_.1))) hb); have n2_ := Aside0.mk (Kd.R_below (by (with_reducible repeat (first | apply Kd.R_alloc | apply Kd.R_drewN | apply Kd.R_drew)); exact (Kd.R_mono (Kd.R_far (p := ⟨gb117, 0, none⟩) (Kd.R_types HO113.out BK117.out (by decide)) (fun _ hk => hk.2) (.slice Ao76 t111.length co76)) (fun _ h_ => h_.1))) hb); have n3_ := Aside0.mk (Kd.R_elder' (by (with_reducible repeat (first | apply Kd.R_alloc | apply Kd.R_drewN | apply Kd.R_drew)); exact (Kd.R_mono (Kd.R_far (p := ⟨gb117, 0, none⟩) (Kd.R_types HO116.out BK117.out (by decide)) (fun _ hk => hk.2) (.slice Ao76 t111.length co76)) (fun _ h_ => h_.1))) (Kd.R_base ho79) hb); have n4_ := Aside0.mk (Kd.R_lower (Kd.R_new' ho79 (Kd.R_lt (by (with_reducible repeat (first | apply Kd.R_alloc | apply Kd.R_drewN | apply Kd.R_drew)); exact (Kd.R_mono (Kd.R_far (p := ⟨gb117, 0, none⟩) (Kd.R_types HO116.out BK117.out (by decide)) (fun _ hk => hk.2) (.slice Ao76 t111.length co76)) (fun _ h_ => h_.1))))) (below_size (by repeat (first | (with_reducible first | exact HB.out | apply below_alloc | apply pw_below_drewN | apply below_drew1 | refine below_set ?_ GE117.out) | exact HB.out)))); have n5_ := Aside0.mk (blk_below (g := gb117) (o := .cells #[.slice Ao76 t111.length co76] 26 (0, 0)) (by (with_reducible repeat (first | refine blk_drewN ?_ _ | refine blk_drew ?_ | refine blk_alloc ?_ _)); refine blk_put (cs := #[.slice none 0 0]) ?_ 0 _ rfl; (with_reducible repeat (first | refine blk_drewN ?_ _ | refine blk_drew ?_ | refine blk_alloc ?_ _)); exact BK117.out) hb); have n6_ := Aside0.mk (below_step (by repeat (first | (with_reducible first | exact HB.out | apply below_alloc | apply pw_below_drewN | apply below_drew1 | refine below_set ?_ GE117.out) | exact HB.out)) hb); clear HO105; clear HO110; clear HO113; clear HO116; clear BK117; clear HB; have HO105 := n0_; have HO110 := n1_; have HO113 := n2_; have HO116 := n3_; have HO120 := n4_; have BK117 := n5_; have HB := n6_; clear n0_ n1_ n2_ n3_ n4_ n5_ n6_; clear hb ho79; obtain ⟨Ao80, co80, eo80⟩ := Kd.R_slice HO116.out; subst eo80; obtain ⟨Ao81, co81, eo81⟩ := Kd.R_slice HO120.out; subst eo81) | (go_at_call 15; (with_reducible refine (proofmarkref02_SameFaults.calls _ _ t114 _ _ y118 t121 _ ?side1 ?side2 ?side3 ?side4 A68.out).mono ?_); (case side1 => repeat (first | exact (Kd.R_reads' HO116.out).2.2 | (with_reducible refine Kd.C_alloc ?_ _) | (with_reducible refine Kd.C_drewN ?_ _) | (with_reducible refine Kd.C_drew ?_))); (case side2 => exact (Kd.R_reads' HO116.out).2.1); (case side3 => repeat (first | exact (Kd.R_reads' HO120.out).2.2 | (with_reducible refine Kd.C_alloc ?_ _) | (with_reducible refine Kd.C_drewN ?_ _) | (with_reducible refine Kd.C_drew ?_))); (case side4 => exact (Kd.R_reads' HO120.out).2.1); rintro e w82 ⟨rfl, hb⟩; have n0_ := Aside0.mk (Kd.R_below (by (with_reducible repeat (first | apply Kd.R_alloc | apply Kd.R_drewN | apply Kd.R_drew)); exact HO105.out) hb); have n1_ := Aside0.mk (Kd.R_below (by (with_reducible repeat (first | apply Kd.R_alloc | apply Kd.R_drewN | apply Kd.R_drew)); exact HO110.out) hb); have n2_ := Aside0.mk (Kd.R_below (by (with_reducible repeat (first | apply Kd.R_alloc | apply Kd.R_drewN | apply Kd.R_drew)); exact HO113.out) hb); have n3_ := Aside0.mk (Kd.R_below (by (with_reducible repeat (first | apply Kd.R_alloc | apply Kd.R_drewN | apply Kd.R_drew)); exact HO116.out) hb); have n4_ := Aside0.mk (Kd.R_below (by (with_reducible repeat (first | apply Kd.R_alloc | apply Kd.R_drewN | apply Kd.R_drew)); exact HO120.out) hb); have n5_ := Aside0.mk (blk_below (g := gb117) (o := .cells #[.slice Ao76 t111.length co76] 26 (0, 0)) (by (with_reducible repeat (first | refine blk_drewN ?_ _ | refine blk_drew ?_ | refine blk_alloc ?_ _)); exact BK117.out) hb); have n6_ := Aside0.mk (below_step (by repeat (first | (with_reducible first | exact HB.out | apply below_alloc | apply pw_below_drewN | apply below_drew1 | refine below_set ?_ GE117.out) | exact HB.out)) hb); clear HO105; clear HO110; clear HO113; clear HO116; clear HO120; clear BK117; clear HB; have HO105 := n0_; have HO110 := n1_; have HO113 := n2_; have HO116 := n3_; have HO120 := n4_; have BK117 := n5_; have HB := n6_; clear n0_ n1_ n2_ n3_ n4_ n5_ n6_; (try clear hb); (try clear hb2); (try clear hk); (try clear hi)))
                      go_ret
                      exact ⟨by first | rfl | (simp [errW_none, errW_some] <;> rfl) | (simp [*, errW_none, errW_some] <;> rfl), by repeat (first | (with_reducible first | exact HB.out | apply below_alloc | apply pw_below_drewN | apply below_drew1 | refine below_set ?_ GE117.out) | exact HB.out)⟩
                    · rw [if_neg c67] at H; exact absurd (Option.some.inj H) (by rw [HRT.out]; decide)
                  · replace c66 := Bool.eq_false_iff.mpr c66
                    subst c66
                    have H1 : (some false) = some r := by rw [if_neg (show ¬ (false = true) by decide)] at H; exact H
                    exact absurd (Option.some.inj H1) (by rw [HRT.out]; decide)
              · rw [if_neg c16] at H
                exact absurd H (by simp)
            · rw [if_neg c13] at H
              exact absurd H (by simp)
          · rw [if_neg c12] at H
            exact absurd H (by simp)
        · rw [if_neg c11] at H
          exact absurd H (by simp)
def proofmarklaw02_SynLexes.Pure : Prop := ∀ (a0 : ByteArray) (a1 : Int) (a2 : Int), a0.size ≤ 140737488351232 → (Lit.int .i64 a1).wf = true → (Lit.int .u8 a2).wf = true → ∃ k, proofmarklaw02_SynLexes.f k a0 a1 a2 = some true
theorem proofmarklaw02_SynLexes.walk (P : proofmarklaw02_SynLexes.Pure) (a0 : ByteArray) (a1 : Int) (a2 : Int) (w : World) (hG : Tab w) (w0 : a0.size ≤ 140737488351232) (w1 : (Lit.int .i64 a1).wf = true) (w2 : (Lit.int .u8 a2).wf = true) :
    Calls Tryd.prog 7 #[.string a0, .int .i64 a1, .int .u8 a2] w fun e w' => e = .returned (.bool true) ∧ Below w.heap.size w w' := by
  obtain ⟨k, h⟩ := P a0 a1 a2 w0 w1 w2
  refine (proofmarklaw02_SynLexes.calls1 k a0 a1 a2 true w hG h rfl).mono ?_
  rintro e w' ⟨rfl, hd⟩
  exact ⟨rfl, hd⟩
end Go.Proofs.YtenogedclignmaaDoor.Q
