/-
  HAND: the document's Goes tells what lift.goes tells.
-/
import Derived.Test.YtmfekngjhiofaaaGreatDoorQx0
import Derived.Test.YtmfekngjhiofaaaGreatDoorHGoes
set_option linter.unusedVariables false
set_option linter.unusedSimpArgs false
namespace Go.Proofs.YtmfekngjhiofaaaGreatDoor.Q
open Go.RowKit Go.Proofs.YtmfekngjhiofaaaGreatDoorW.PrintWords Go.Proofs.YtmfekngjhiofaaaGreatDoorW.PrintLast Go.Proofs.YtmfekngjhiofaaaGreatDoorW.PrintMore

theorem latAt {l : List S94} {k q : Nat} {y : S94} (h : q = k) (hy : rd_T94 l (k : Int) = y) : (rd_T94 l (q : Int)).f3 = y.f3 ∧ (rd_T94 l (q : Int)).f4 = y.f4 := by
  subst h; rw [hy]; exact ⟨rfl, rfl⟩
def proofmarkref27_Goes.f (l0_0 : List (S125)) (l0_1 : List (S72)) (l0_2 : List (S114)) (l0_3 : List (S105)) (l0_4 : List (S72)) (a1_0 : Int) (l1_1 : List (S199)) (l1_2 : List (S200)) (l1_3 : List (S94)) (l1_4 : List (S202)) : Option (Bool) := some (goesB l0_2.length l1_3)
set_option maxHeartbeats 8000000 in
set_option maxRecDepth 100000 in
theorem proofmarkref27_Goes.calls (A0_0 : Option Addr) (c0_0 : Nat) (l0_0 : List (S125)) (A0_1 : Option Addr) (c0_1 : Nat) (l0_1 : List (S72)) (A0_2 : Option Addr) (c0_2 : Nat) (l0_2 : List (S114)) (A0_3 : Option Addr) (c0_3 : Nat) (l0_3 : List (S105)) (A0_4 : Option Addr) (c0_4 : Nat) (l0_4 : List (S72)) (a1_0 : Int) (A1_1 : Option Addr) (c1_1 : Nat) (l1_1 : List (S199)) (A1_2 : Option Addr) (c1_2 : Nat) (l1_2 : List (S200)) (A1_3 : Option Addr) (c1_3 : Nat) (l1_3 : List (S94)) (A1_4 : Option Addr) (c1_4 : Nat) (l1_4 : List (S202)) (r : Bool) (w : World) (hr0_0 : Kd.C k125 w A0_0 l0_0.length l0_0) (hc0_0 : l0_0.length ≤ c0_0) (hr0_1 : Kd.C k72 w A0_1 l0_1.length l0_1) (hc0_1 : l0_1.length ≤ c0_1) (hr0_2 : Kd.C k114 w A0_2 l0_2.length l0_2) (hc0_2 : l0_2.length ≤ c0_2) (hr0_3 : Kd.C k105 w A0_3 l0_3.length l0_3) (hc0_3 : l0_3.length ≤ c0_3) (hr0_4 : Kd.C k72 w A0_4 l0_4.length l0_4) (hc0_4 : l0_4.length ≤ c0_4) (hr1_1 : Kd.C k199 w A1_1 l1_1.length l1_1) (hc1_1 : l1_1.length ≤ c1_1) (hr1_2 : Kd.C k200 w A1_2 l1_2.length l1_2) (hc1_2 : l1_2.length ≤ c1_2) (hr1_3 : Kd.C k94 w A1_3 l1_3.length l1_3) (hc1_3 : l1_3.length ≤ c1_3) (hr1_4 : Kd.C k202 w A1_4 l1_4.length l1_4) (hc1_4 : l1_4.length ≤ c1_4) (h : proofmarkref27_Goes.f l0_0 l0_1 l0_2 l0_3 l0_4 a1_0 l1_1 l1_2 l1_3 l1_4 = some r) :
    Calls Tryz.prog 48 #[.agg #[.slice A0_0 l0_0.length c0_0, .slice A0_1 l0_1.length c0_1, .slice A0_2 l0_2.length c0_2, .slice A0_3 l0_3.length c0_3, .slice A0_4 l0_4.length c0_4], .agg #[.int .i64 a1_0, .slice A1_1 l1_1.length c1_1, .slice A1_2 l1_2.length c1_2, .slice A1_3 l1_3.length c1_3, .slice A1_4 l1_4.length c1_4]] w fun e w' => e = .returned (.bool r) ∧ Below w.heap.size w w' := by
  have HF := Aside0.mk (show goesB l0_2.length l1_3 = r from Option.some.inj h)
  have HR := Aside0.mk hr1_3
  have hlen : l1_3.length ≤ 9223372036854775807 := hr1_3.2.1
  have hlen2 : l0_2.length ≤ 9223372036854775807 := hr0_2.2.1
  clear h hr0_0 hc0_0 hr0_1 hc0_1 hr0_2 hc0_2 hr0_3 hc0_3 hr0_4 hc0_4 hr1_1 hc1_1 hr1_2 hc1_2 hr1_3 hc1_3 hr1_4 hc1_4
  have H2 := Aside0.mk (two_boxes w (.cells #[.slice A0_0 l0_0.length c0_0, .slice A0_1 l0_1.length c0_1, .slice A0_2 l0_2.length c0_2, .slice A0_3 l0_3.length c0_3, .slice A0_4 l0_4.length c0_4] 27) (.cells #[.int .i64 a1_0, .slice A1_1 l1_1.length c1_1, .slice A1_2 l1_2.length c1_2, .slice A1_3 l1_3.length c1_3, .slice A1_4 l1_4.length c1_4] 35))
  have HB2 := Aside0.mk (below_alloc (below_alloc (Below.refl w.heap.size w) (.cells #[.slice A0_0 l0_0.length c0_0, .slice A0_1 l0_1.length c0_1, .slice A0_2 l0_2.length c0_2, .slice A0_3 l0_3.length c0_3, .slice A0_4 l0_4.length c0_4] 27)) (.cells #[.int .i64 a1_0, .slice A1_1 l1_1.length c1_1, .slice A1_2 l1_2.length c1_2, .slice A1_3 l1_3.length c1_3, .slice A1_4 l1_4.length c1_4] 35))
  go_enter Tryz.func48, Tryz.ntmps48
  go_wp2
  generalize (w.alloc (.cells #[.slice A0_0 l0_0.length c0_0, .slice A0_1 l0_1.length c0_1, .slice A0_2 l0_2.length c0_2, .slice A0_3 l0_3.length c0_3, .slice A0_4 l0_4.length c0_4] 27)).alloc (.cells #[.int .i64 a1_0, .slice A1_1 l1_1.length c1_1, .slice A1_2 l1_2.length c1_2, .slice A1_3 l1_3.length c1_3, .slice A1_4 l1_4.length c1_4] 35) = w2 at H2 HB2 ⊢
  try simp only [Act.put, List.setIfInBounds_toArray, List.set_cons_succ, List.set_cons_zero]
  go_loopg [5] l1_3.length (fun kq v5 wr => ∃ (k : Nat) (cell bit : Int), v5 = .int .i64 k ∧ k ≤ l1_3.length ∧ Aside0 (kq = l1_3.length - k) ∧ Aside0 (k = 0 → cell = -1 ∧ bit = 0) ∧ Aside0 (∀ m, k = m + 1 → (rd_T94 l1_3 (m : Int)).f3 = cell ∧ (rd_T94 l1_3 (m : Int)).f4 = bit) ∧ Aside0 (goesFrom l0_2.length cell bit (l1_3.drop k) = r) ∧ Aside0 (Below w2.heap.size w2 wr))
  case atStart => exact ⟨0, -1, 0, rfl, by omega, ⟨by omega⟩, ⟨fun _ => ⟨rfl, rfl⟩⟩, ⟨fun m hm => absurd hm (by omega)⟩, HF, ⟨Below.refl _ _⟩⟩
  case round =>
    obtain ⟨k, cell, bit, rfl, hk, HQ, HZ, HP, HG, HB⟩ := hrel
    have HBW := Aside0.mk (below_step HB2.out HB.out)
    have y3 := Lib.cell_of_heap ((HB.out.block _ (Array.getElem?_eq_some_iff.1 H2.out.2).1).trans H2.out.2) 3
    by_cases hlt : k < l1_3.length
    · have hi0 : 0 ≤ (k : Int) := by omega
      have hi1 : (k : Int) < l1_3.length := by omega
      obtain ⟨ad, e, x0, x1, x2, x3, x4⟩ := at_T94 (Kd.C_below HR.out HBW.out) k hi0 hi1
      cases e
      have hto : (k : Int).toNat = k := by omega
      simp only [hto] at x0 x1 x2 x3 x4
      clear hto
      generalize hy : rd_T94 l1_3 (k : Int) = y at x0 x1 x2 x3 x4
      have HY := Aside0.mk hy
      have hyk : l1_3[k] = y := by rw [← hy]; simp [rd_T94, hlt]
      clear hy
      have hg := HG.out
      rw [drop_at hlt, hyk] at hg
      have HG2 := Aside0.mk (show (latOk l0_2.length cell bit y && goesFrom l0_2.length y.f3 y.f4 (l1_3.drop (k + 1))) = r from hg)
      clear hg hyk
      have HBX := Aside0.mk (below_alloc HB.out (.cells #[.int .i64 y.f0, .int .i64 y.f1, .bool y.f2, .int .i64 y.f3, .int .i64 y.f4] 94))
      have u2 := Lib.cell_of_heap ((HBX.out.block _ (Array.getElem?_eq_some_iff.1 H2.out.1).1).trans H2.out.1) 2
      have u3 := Lib.cell_of_heap ((HBX.out.block _ (Array.getElem?_eq_some_iff.1 H2.out.2).1).trans H2.out.2) 3
      rcases Nat.eq_zero_or_pos k with hz0 | hpos
      · obtain ⟨rfl, rfl⟩ := HZ.out hz0
        have hng : ¬ 0 < (k : Int) := by omega
        have hd0 : decide (0 < (k : Int)) = false := decide_eq_false hng
        have hd1 : decide (0 < k) = false := decide_eq_false (by omega)
        have HZ0 := Aside0.mk hz0
        clear hz0 hi0
        have hcase : y.f3 < 0 ∨ (¬ y.f3 < 0 ∧ ((l0_2.length : Int) ≤ y.f3 ∨ (y.f3 < l0_2.length ∧ (y.f4 < 0 ∨ ¬ y.f4 < 0)))) := by omega
        rcases hcase with h1 | ⟨h1, h2 | ⟨h2, h3 | h3⟩⟩
        all_goals first
          | (have hok : latOk l0_2.length (-1) 0 y = false := decide_eq_false (by omega)
             have hr : r = false := by rw [← HG2.out, hok]; rfl
             have HRT := Aside0.mk hr
             clear hr hok
             go_wp2
             go_ret
             exact ⟨by rw [HRT.out]; rfl, below_alloc HBW.out _⟩)
          | (have hok : latOk l0_2.length (-1) 0 y = true := decide_eq_true (by omega)
             have HG3 := Aside0.mk (show goesFrom l0_2.length y.f3 y.f4 (l1_3.drop (k + 1)) = r by rw [← HG2.out, hok]; rfl)
             clear hok
             go_wp2
             go_quiet (fail)
             go_wp2
             go_roundg (l1_3.length - (k + 1))
             case measure => have h8 := HQ.out; omega
             case rel => exact ⟨k + 1, y.f3, y.f4, by go_num, by omega, ⟨rfl⟩, ⟨fun h => absurd h (by omega)⟩, ⟨fun q hq => latAt (by omega) HY.out⟩, HG3, ⟨pw_below_drewN HBX.out _⟩⟩)
      · obtain ⟨m, rfl⟩ : ∃ m, k = m + 1 := ⟨k - 1, by omega⟩
        obtain ⟨p1, p2⟩ := HP.out m rfl
        have hm0 : 0 ≤ (m : Int) := by omega
        have hm1 : (m : Int) < l1_3.length := by omega
        obtain ⟨ad2, e2, z0, z1, z2, z3, z4⟩ := at_T94 (Kd.C_below HR.out (below_step HB2.out HBX.out)) m hm0 hm1
        cases e2
        have hto : (m : Int).toNat = m := by omega
        simp only [hto] at z0 z1 z2 z3 z4
        clear hto z0 z1 z2
        rw [p1] at z3
        rw [p2] at z4
        clear p1 p2
        have hd0 : decide (0 < (m : Int) + 1) = true := decide_eq_true (by omega)
        have hwm : IntKind.i64.wrap ((m : Int) + 1 - 1) = (m : Int) := by rw [IntKind.wrap_i64]; omega
        have hwm2 : wrap64 ((m : Int) + 1 - 1) = (m : Int) := by unfold wrap64; omega
        have hwm3 : IntKind.i64.wrap (m : Int) = (m : Int) := by rw [IntKind.wrap_i64]; omega
        have hwm4 : wrap64 (m : Int) = (m : Int) := by unfold wrap64; omega
        have hwm5 : (m : Int) + 1 - 1 = (m : Int) := by omega
        have hcase : y.f3 < 0 ∨ (¬ y.f3 < 0 ∧ ((l0_2.length : Int) ≤ y.f3 ∨ (y.f3 < l0_2.length ∧ (y.f4 < 0 ∨ (¬ y.f4 < 0 ∧ (y.f3 < cell ∨ (¬ y.f3 < cell ∧ ((cell = y.f3 ∧ (y.f4 ≤ bit ∨ ¬ y.f4 ≤ bit)) ∨ ¬ cell = y.f3)))))))) := by omega
        rcases hcase with h1 | ⟨h1, h2 | ⟨h2, h3 | ⟨h3, h4 | ⟨h4, ⟨h5, h6 | h6⟩ | h5⟩⟩⟩⟩
        all_goals first
          | (have hok : latOk l0_2.length cell bit y = false := decide_eq_false (by omega)
             have hr : r = false := by rw [← HG2.out, hok]; rfl
             have HRT := Aside0.mk hr
             (try have d4 := decide_eq_true h4)
             (try have d4 := decide_eq_false h4)
             (try have d6 := decide_eq_true h6)
             (try have d6 := decide_eq_false h6)
             (try have b3 : (cell == y.f3) = true := beq_iff_eq.mpr h5)
             (try have b3 : (cell == y.f3) = false := beq_eq_false_iff_ne.mpr h5)
             clear hr hok
             try clear h5
             go_wp2
             try (go_quiet (fail); go_wp2)
             go_ret
             exact ⟨by rw [HRT.out]; rfl, by first | exact below_alloc HBW.out _ | exact pw_below_drewN (below_alloc HBW.out _) _⟩)
          | (have hok : latOk l0_2.length cell bit y = true := decide_eq_true (by omega)
             have HG3 := Aside0.mk (show goesFrom l0_2.length y.f3 y.f4 (l1_3.drop (m + 1 + 1)) = r by rw [← HG2.out, hok]; rfl)
             (try have d4 := decide_eq_true h4)
             (try have d4 := decide_eq_false h4)
             (try have d6 := decide_eq_true h6)
             (try have d6 := decide_eq_false h6)
             (try have b3 : (cell == y.f3) = true := beq_iff_eq.mpr h5)
             (try have b3 : (cell == y.f3) = false := beq_eq_false_iff_ne.mpr h5)
             clear hok
             try clear h5
             go_wp2
             go_quiet (fail)
             go_wp2
             go_roundg (l1_3.length - (m + 1 + 1))
             case measure => have h8 := HQ.out; omega
             case rel => exact ⟨m + 1 + 1, y.f3, y.f4, by go_num, by omega, ⟨rfl⟩, ⟨fun h => absurd h (by omega)⟩, ⟨fun q hq => latAt (by omega) HY.out⟩, HG3, ⟨pw_below_drewN HBX.out _⟩⟩)
    · obtain rfl : k = l1_3.length := by omega
      have hr : r = true := by rw [← HG.out, List.drop_length]; rfl
      have HRT := Aside0.mk hr
      clear hr
      go_wp2
      go_ret
      exact ⟨by rw [HRT.out]; rfl, HBW.out⟩
end Go.Proofs.YtmfekngjhiofaaaGreatDoor.Q
