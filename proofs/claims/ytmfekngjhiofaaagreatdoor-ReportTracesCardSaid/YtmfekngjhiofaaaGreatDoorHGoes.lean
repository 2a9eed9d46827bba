/-
  HAND: lift.goes.
-/
import Derived.Test.YtmfekngjhiofaaaGreatDoorQx0
import Derived.Test.YtmfekngjhiofaaaGreatDoorHBase
set_option linter.unusedVariables false
set_option linter.unusedSimpArgs false
namespace Go.Proofs.YtmfekngjhiofaaaGreatDoor.Q
open Go.RowKit Go.Proofs.YtmfekngjhiofaaaGreatDoorW.PrintWords Go.Proofs.YtmfekngjhiofaaaGreatDoorW.PrintLast Go.Proofs.YtmfekngjhiofaaaGreatDoorW.PrintMore

/-- latches in order, from a place on -/
def latOk (nc : Int) (cell bit : Int) (x : S94) : Bool := decide (0 ≤ x.f4 ∧ (cell < x.f3 ∨ (cell = x.f3 ∧ bit < x.f4)) ∧ 0 ≤ x.f3 ∧ x.f3 < nc)
def goesFrom (nc : Int) : Int → Int → List S94 → Bool
  | _, _, [] => true
  | c, b, x :: l => latOk nc c b x && goesFrom nc x.f3 x.f4 l
def goesB (nc : Nat) (l : List S94) : Bool := goesFrom nc (-1) 0 l
def lift_goes.f (l0_0 : List S125) (l0_1 : List S72) (l0_2 : List S114) (l0_3 : List S105) (l0_4 : List S72) (a1_0 : Int) (l1_1 : List S199) (l1_2 : List S200) (l1_3 : List S94) (l1_4 : List S202) : Option (Bool) := some (goesB l0_2.length l1_3)
theorem two_boxes (w : World) (o0 o1 : Obj) : ((w.alloc o0).alloc o1).heap[w.heap.size]? = some o0 ∧ ((w.alloc o0).alloc o1).heap[w.heap.size + 1]? = some o1 := sblocks w o0 o1
theorem drop_at {α : Type} {l : List α} {k : Nat} (h : k < l.length) : l.drop k = l[k] :: l.drop (k + 1) := List.drop_eq_getElem_cons h
set_option maxHeartbeats 8000000 in
set_option maxRecDepth 100000 in
theorem lift_goes.calls (A0_0 : Option Addr) (c0_0 : Nat) (l0_0 : List S125) (A0_1 : Option Addr) (c0_1 : Nat) (l0_1 : List S72) (A0_2 : Option Addr) (c0_2 : Nat) (l0_2 : List S114) (A0_3 : Option Addr) (c0_3 : Nat) (l0_3 : List S105) (A0_4 : Option Addr) (c0_4 : Nat) (l0_4 : List S72) (a1_0 : Int) (A1_1 : Option Addr) (c1_1 : Nat) (l1_1 : List S199) (A1_2 : Option Addr) (c1_2 : Nat) (l1_2 : List S200) (A1_3 : Option Addr) (c1_3 : Nat) (l1_3 : List S94) (A1_4 : Option Addr) (c1_4 : Nat) (l1_4 : List S202) (r : Bool) (w : World) (hG : Tab w) (hr0_0 : Kd.C k125 w A0_0 l0_0.length l0_0) (hc0_0 : l0_0.length ≤ c0_0) (hr0_1 : Kd.C k72 w A0_1 l0_1.length l0_1) (hc0_1 : l0_1.length ≤ c0_1) (hr0_2 : Kd.C k114 w A0_2 l0_2.length l0_2) (hc0_2 : l0_2.length ≤ c0_2) (hr0_3 : Kd.C k105 w A0_3 l0_3.length l0_3) (hc0_3 : l0_3.length ≤ c0_3) (hr0_4 : Kd.C k72 w A0_4 l0_4.length l0_4) (hc0_4 : l0_4.length ≤ c0_4) (hr1_1 : Kd.C k199 w A1_1 l1_1.length l1_1) (hc1_1 : l1_1.length ≤ c1_1) (hr1_2 : Kd.C k200 w A1_2 l1_2.length l1_2) (hc1_2 : l1_2.length ≤ c1_2) (hr1_3 : Kd.C k94 w A1_3 l1_3.length l1_3) (hc1_3 : l1_3.length ≤ c1_3) (hr1_4 : Kd.C k202 w A1_4 l1_4.length l1_4) (hc1_4 : l1_4.length ≤ c1_4) (h : lift_goes.f l0_0 l0_1 l0_2 l0_3 l0_4 a1_0 l1_1 l1_2 l1_3 l1_4 = some r) :
    Calls Tryz.prog 45 #[.agg #[.slice A0_0 l0_0.length c0_0, .slice A0_1 l0_1.length c0_1, .slice A0_2 l0_2.length c0_2, .slice A0_3 l0_3.length c0_3, .slice A0_4 l0_4.length c0_4], .agg #[.int .i64 a1_0, .slice A1_1 l1_1.length c1_1, .slice A1_2 l1_2.length c1_2, .slice A1_3 l1_3.length c1_3, .slice A1_4 l1_4.length c1_4]] w fun e w' => e = .returned (.bool r) ∧ Below w.heap.size w w' := by
  have HF := Aside0.mk (show goesB l0_2.length l1_3 = r from Option.some.inj h)
  have HR := Aside0.mk hr1_3
  have hlen : l1_3.length ≤ 9223372036854775807 := hr1_3.2.1
  have hlen2 : l0_2.length ≤ 9223372036854775807 := hr0_2.2.1
  clear h hG hr0_0 hc0_0 hr0_1 hc0_1 hr0_2 hc0_2 hr0_3 hc0_3 hr0_4 hc0_4 hr1_1 hc1_1 hr1_2 hc1_2 hr1_3 hc1_3 hr1_4 hc1_4
  have H2 := Aside0.mk (two_boxes w (.cells #[.slice A0_0 l0_0.length c0_0, .slice A0_1 l0_1.length c0_1, .slice A0_2 l0_2.length c0_2, .slice A0_3 l0_3.length c0_3, .slice A0_4 l0_4.length c0_4] 27) (.cells #[.int .i64 a1_0, .slice A1_1 l1_1.length c1_1, .slice A1_2 l1_2.length c1_2, .slice A1_3 l1_3.length c1_3, .slice A1_4 l1_4.length c1_4] 35))
  have HB2 := Aside0.mk (below_alloc (below_alloc (Below.refl w.heap.size w) (.cells #[.slice A0_0 l0_0.length c0_0, .slice A0_1 l0_1.length c0_1, .slice A0_2 l0_2.length c0_2, .slice A0_3 l0_3.length c0_3, .slice A0_4 l0_4.length c0_4] 27)) (.cells #[.int .i64 a1_0, .slice A1_1 l1_1.length c1_1, .slice A1_2 l1_2.length c1_2, .slice A1_3 l1_3.length c1_3, .slice A1_4 l1_4.length c1_4] 35))
  go_enter Tryz.func45, Tryz.ntmps45
  go_wp2
  generalize (w.alloc (.cells #[.slice A0_0 l0_0.length c0_0, .slice A0_1 l0_1.length c0_1, .slice A0_2 l0_2.length c0_2, .slice A0_3 l0_3.length c0_3, .slice A0_4 l0_4.length c0_4] 27)).alloc (.cells #[.int .i64 a1_0, .slice A1_1 l1_1.length c1_1, .slice A1_2 l1_2.length c1_2, .slice A1_3 l1_3.length c1_3, .slice A1_4 l1_4.length c1_4] 35) = w2 at H2 HB2 ⊢
  try simp only [Act.put, List.setIfInBounds_toArray, List.set_cons_succ, List.set_cons_zero]
  go_loopg [5, 6, 12] l1_3.length (fun kq v5 v6 v12 wr => ∃ (k : Nat) (cell bit : Int), v12 = .int .i64 k ∧ v5 = .int .i64 cell ∧ v6 = .int .i64 bit ∧ k ≤ l1_3.length ∧ Aside0 (kq = l1_3.length - k) ∧ Aside0 (goesFrom l0_2.length cell bit (l1_3.drop k) = r) ∧ Aside0 (Below w2.heap.size w2 wr))
  case atStart => exact ⟨0, -1, 0, rfl, rfl, rfl, by omega, ⟨by omega⟩, HF, ⟨Below.refl _ _⟩⟩
  case round =>
    obtain ⟨k, cell, bit, rfl, rfl, rfl, hk, HQ, HG, HB⟩ := hrel
    have HBW := Aside0.mk (below_step HB2.out HB.out)
    by_cases hlt : k < l1_3.length
    · have hi0 : 0 ≤ (k : Int) := by omega
      have hi1 : (k : Int) < l1_3.length := by omega
      obtain ⟨ad, e, x0, x1, x2, x3, x4⟩ := at_T94 (Kd.C_below HR.out HBW.out) k hi0 hi1
      cases e
      have hto : (k : Int).toNat = k := by omega
      simp only [hto] at x0 x1 x2 x3 x4
      clear hto
      generalize hy : rd_T94 l1_3 (k : Int) = y at x0 x1 x2 x3 x4
      have hyk : l1_3[k] = y := by rw [← hy]; simp [rd_T94, hlt]
      clear hy
      have hg := HG.out
      rw [drop_at hlt, hyk] at hg
      have HG2 := Aside0.mk (show (latOk l0_2.length cell bit y && goesFrom l0_2.length y.f3 y.f4 (l1_3.drop (k + 1))) = r from hg)
      clear hg hyk
      have y2 := Lib.cell_of_heap (((below_alloc HB.out (.cells #[.int .i64 y.f0, .int .i64 y.f1, .bool y.f2, .int .i64 y.f3, .int .i64 y.f4] 94)).block _ (Array.getElem?_eq_some_iff.1 H2.out.1).1).trans H2.out.1) 2
      have hcase : y.f4 < 0 ∨ (0 ≤ y.f4 ∧ (y.f3 < cell ∨ (¬ y.f3 < cell ∧ ((y.f3 = cell ∧ (y.f4 ≤ bit ∨ (¬ y.f4 ≤ bit ∧ (y.f3 < 0 ∨ (¬ y.f3 < 0 ∧ ((l0_2.length : Int) ≤ y.f3 ∨ y.f3 < l0_2.length)))))) ∨ (¬ y.f3 = cell ∧ (y.f3 < 0 ∨ (¬ y.f3 < 0 ∧ ((l0_2.length : Int) ≤ y.f3 ∨ y.f3 < l0_2.length)))))))) := by omega
      rcases hcase with h1 | ⟨h1, h2 | ⟨h2, ⟨h3, h4 | ⟨h4, h5 | ⟨h5, h6 | h6⟩⟩⟩ | ⟨h3, h5 | ⟨h5, h6 | h6⟩⟩⟩⟩
      all_goals first
        | (have hok : latOk l0_2.length cell bit y = false := decide_eq_false (by omega)
           have hr : r = false := by rw [← HG2.out, hok]; rfl
           have HRT := Aside0.mk hr
           (try have b3 : (y.f3 == cell) = true := beq_iff_eq.mpr h3)
           (try have b3 : (y.f3 == cell) = false := beq_eq_false_iff_ne.mpr h3)
           clear hr hok
           try clear h3
           go_wp2
           go_ret
           exact ⟨by rw [HRT.out]; rfl, below_alloc HBW.out _⟩)
        | (have hok : latOk l0_2.length cell bit y = true := decide_eq_true (by omega)
           have HG3 := Aside0.mk (show goesFrom l0_2.length y.f3 y.f4 (l1_3.drop (k + 1)) = r by rw [← HG2.out, hok]; rfl)
           (try have b3 : (y.f3 == cell) = true := beq_iff_eq.mpr h3)
           (try have b3 : (y.f3 == cell) = false := beq_eq_false_iff_ne.mpr h3)
           clear hok
           try clear h3
           go_wp2
           go_quiet (fail)
           go_wp2
           go_roundg (l1_3.length - (k + 1))
           case measure => have h8 := HQ.out; omega
           case rel => exact ⟨k + 1, y.f3, y.f4, by go_num, rfl, rfl, by omega, ⟨rfl⟩, HG3, ⟨pw_below_drewN (below_alloc HB.out _) _⟩⟩)
    · obtain rfl : k = l1_3.length := by omega
      have hr : r = true := by rw [← HG.out, List.drop_length]; rfl
      have HRT := Aside0.mk hr
      clear hr
      go_wp2
      go_ret
      exact ⟨by rw [HRT.out]; rfl, HBW.out⟩
end Go.Proofs.YtmfekngjhiofaaaGreatDoor.Q
