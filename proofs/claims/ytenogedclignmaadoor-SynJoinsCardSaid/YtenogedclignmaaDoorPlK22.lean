/-
  HELPER.
-/
import Derived.Test.YtenogedclignmaaDoorPlKA
import Derived.Test.YtenogedclignmaaDoorPlK13
set_option linter.unusedVariables false
set_option linter.unusedSimpArgs false
namespace Go.Proofs.YtenogedclignmaaDoor.Q
open Go.RowKit Go.Maps Go.WideMaps Go.Proofs.YtenogedclignmaaDoorW.PrintWords Go.Proofs.YtenogedclignmaaDoorW.PrintLast Go.Proofs.YtenogedclignmaaDoorW.PrintMore
theorem deepE_kid {x : Ex} {i : Nat} (h : i < x.f6.length) : deepE x.f6[i] < deepE x := by
 have hl : ∀ (ks : List Ex) (i : Nat) (h : i < ks.length), deepE ks[i] < deepL ks := by
  intro ks
  induction ks with
  | nil => intro i h; simp at h
  | cons k ks ih =>
   intro i h
   rw [deepL]
   cases i with
   | zero => simp only [List.getElem_cons_zero]; omega
   | succ i => have := ih i (by simpa using h); simp only [List.getElem_cons_succ]; omega
 have := hl x.f6 i h
 cases x
 rw [deepE]
 exact this
set_option maxHeartbeats 8000000 in
set_option maxRecDepth 100000 in
theorem same_expr : ∀ (n : Nat) (x : Ex) (A1 : Option Addr) (c1 : Nat) (A2 : Option Addr) (c2 : Nat) (w : World), deepE x < n → Kd.C k56 w A1 x.f6.length x.f6 → Kd.C k56 w A2 x.f6.length x.f6 →
  Calls Tryd.prog 30 #[.agg (exV x (.slice A1 x.f6.length c1)), .agg (exV x (.slice A2 x.f6.length c2))] w fun e w' => e = .returned (.bool true) ∧ Below w.heap.size w w' := by
 intro n
 induction n with
 | zero => intro x A1 c1 A2 c2 w h; omega
 | succ n ih =>
  intro x A1 c1 A2 c2 w hd hC1 hC2
  have hm1 := hC1.2.1
  have hb1 := below_alloc (bR w.heap.size w) (.cells (exV x (.slice A1 x.f6.length c1)) 56)
  have hx1 := (MapKept.heap_alloc w (.cells (exV x (.slice A1 x.f6.length c1)) 56)).1
  have hz1 : (w.alloc (.cells (exV x (.slice A1 x.f6.length c1)) 56)).heap.size = w.heap.size + 1 := by show (w.heap.push _).size = _; simp
  have hb2 := below_alloc hb1 (.cells (exV x (.slice A2 x.f6.length c2)) 56)
  have hx2 := (MapKept.heap_alloc (w.alloc (.cells (exV x (.slice A1 x.f6.length c1)) 56)) (.cells (exV x (.slice A2 x.f6.length c2)) 56)).1
  rw [hz1] at hx2
  have hx12 := fbelow hx1 (below_alloc (bR (w.alloc (.cells (exV x (.slice A1 x.f6.length c1)) 56)).heap.size (w.alloc (.cells (exV x (.slice A1 x.f6.length c1)) 56))) (.cells (exV x (.slice A2 x.f6.length c2)) 56))
  have HB := aS hb2
  have HX1 := aS hx12
  have HX2 := aS hx2
  have HD1 := aS hC1
  have HD2 := aS hC2
  have HC1 := aS (Kd.C_below hC1 hb2)
  have HC2 := aS (Kd.C_below hC2 hb2)
  have HD := aS hd
  have HIH := aS ih
  have HM := aS hm1
  clear hb1 hx1 hz1 hb2 hx2 hx12 hC1 hC2 hd ih hm1
  go_enter Tryd.func30, Tryd.ntmps30
  go_upto_region 1 with (fail)
  generalize (w.alloc (.cells (exV x (.slice A1 x.f6.length c1)) 56)).alloc (.cells (exV x (.slice A2 x.f6.length c2)) 56) = w1 at *
  generalize hg1 : w.heap.size = g1 at *
  obtain ⟨g2, hg2⟩ : ∃ g2, g1 + 1 = g2 := ⟨_, rfl⟩
  rw [hg2] at HX2
  rw [hg2]
  have j0 := cH HX1.out 0
  have j1 := cH HX1.out 1
  have j2 := cH HX1.out 2
  have j3 := cH HX1.out 3
  have j4 := cH HX1.out 4
  have j5 := cH HX1.out 5
  have j6 := cH HX1.out 6
  have j7 := cH HX1.out 7
  have j8 := cH HX1.out 8
  have j9 := cH HX1.out 9
  have j10 := cH HX1.out 10
  have k0 := cH HX2.out 0
  have k1 := cH HX2.out 1
  have k2 := cH HX2.out 2
  have k3 := cH HX2.out 3
  have k4 := cH HX2.out 4
  have k5 := cH HX2.out 5
  have k6 := cH HX2.out 6
  have k7 := cH HX2.out 7
  have k8 := cH HX2.out 8
  have k9 := cH HX2.out 9
  have k10 := cH HX2.out 10
  go_upto_region 3 with (fail)
  clear j0 k0 j1 k1 j2 k2 j3 k3 j4 k4 j5 k5 j6 k6 j7 k7 j8 k8 j9 k9 j10 k10
  go_wp2
  try simp only [Act.put, List.setIfInBounds_toArray, List.set_cons_succ, List.set_cons_zero]
  go_loopg [5] x.f6.length (fun kq v5 w' => ∃ i : Int, v5 = .int .i64 i ∧ 0 ≤ i ∧ i ≤ (x.f6.length : Int) ∧ (kq : Int) = x.f6.length - i ∧ Aside0 (w'.heap[g1]? = some (.cells (exV x (.slice A1 x.f6.length c1)) 56)) ∧ Aside0 (w'.heap[g2]? = some (.cells (exV x (.slice A2 x.f6.length c2)) 56)) ∧ Aside0 (Below g1 w w'))
  case atStart => exact ⟨0, rfl, by omega, by omega, by omega, HX1, HX2, HB⟩
  case round =>
   clear HX1 HX2 HB HC1 HC2
   obtain ⟨i, rfl, hi0, hi, hk, HX1, HX2, HB⟩ := hrel
   by_cases hlt : i < (x.f6.length : Int)
   ·have HK := aS hk
    have HLT := aS hlt
    have hd1 : decide (i < (x.f6.length : Int)) = true := decide_eq_true hlt
    clear hk
    have h10 := cH HX1.out 10
    have h20 := cH HX2.out 10
    have hrd : rd_T56 x.f6 i = x.f6[i.toNat]'(by omega) := by simp [rd_T56, List.getD, show i.toNat < x.f6.length by omega]
    obtain ⟨ad1, B1, d1, e1, x1_0, x1_1, x1_2, x1_3, x1_4, x1_5, x1_6, x1_7, x1_8, x1_9, x1_10, hl1, hc1⟩ := at_T56 (Kd.C_below HD1.out (hg1 ▸ HB.out)) i hi0 hlt
    subst e1
    obtain ⟨ad2, B2, d2, e2, x2_0, x2_1, x2_2, x2_3, x2_4, x2_5, x2_6, x2_7, x2_8, x2_9, x2_10, hl2, hc2⟩ := at_T56 (Kd.C_below HD2.out (hg1 ▸ HB.out)) i hi0 hlt
    subst e2
    have HY := aS (show deepE (rd_T56 x.f6 i) < n by rw [hrd]; have := deepE_kid (x := x) (i := i.toNat) (by omega); have := HD.out; omega)
    clear hrd
    generalize rd_T56 x.f6 i = y at *
    have HK1 := aS hc1
    have HK2 := aS hc2
    clear hc1 hc2
    have HI0 := aS hi0
    replace hi0 := eq_true hi0
    replace hlt := eq_true hlt
    go_upto_region 6 with (fail)
    refine start_ (n := 12) (S := fun w' => w'.cell? ⟨g1, 10, none⟩ = some (.slice (some ad1) x.f6.length c1) ∧ w'.cell? ⟨g2, 10, none⟩ = some (.slice (some ad2) x.f6.length c2) ∧ w'.cell? (ad1.add (i.toNat * 11)) = some (.int .i64 y.f0) ∧ w'.cell? ⟨(ad1.add (i.toNat * 11)).block, (ad1.add (i.toNat * 11)).off + 1, none⟩ = some (.string y.f1.f0) ∧ w'.cell? ⟨(ad1.add (i.toNat * 11)).block, (ad1.add (i.toNat * 11)).off + 2, none⟩ = some (.int .i64 y.f1.f1) ∧ w'.cell? ⟨(ad1.add (i.toNat * 11)).block, (ad1.add (i.toNat * 11)).off + 3, none⟩ = some (.string y.f2.f0) ∧ w'.cell? ⟨(ad1.add (i.toNat * 11)).block, (ad1.add (i.toNat * 11)).off + 4, none⟩ = some (.int .i64 y.f2.f1) ∧ w'.cell? ⟨(ad1.add (i.toNat * 11)).block, (ad1.add (i.toNat * 11)).off + 5, none⟩ = some (.string y.f3.f0) ∧ w'.cell? ⟨(ad1.add (i.toNat * 11)).block, (ad1.add (i.toNat * 11)).off + 6, none⟩ = some (.int .i64 y.f3.f1) ∧ w'.cell? ⟨(ad1.add (i.toNat * 11)).block, (ad1.add (i.toNat * 11)).off + 7, none⟩ = some (.string y.f4.f0) ∧ w'.cell? ⟨(ad1.add (i.toNat * 11)).block, (ad1.add (i.toNat * 11)).off + 8, none⟩ = some (.int .i64 y.f4.f1) ∧ w'.cell? ⟨(ad1.add (i.toNat * 11)).block, (ad1.add (i.toNat * 11)).off + 9, none⟩ = some (.string y.f5) ∧ w'.cell? ⟨(ad1.add (i.toNat * 11)).block, (ad1.add (i.toNat * 11)).off + 10, none⟩ = some (.slice B1 y.f6.length d1) ∧ w'.cell? (ad2.add (i.toNat * 11)) = some (.int .i64 y.f0) ∧ w'.cell? ⟨(ad2.add (i.toNat * 11)).block, (ad2.add (i.toNat * 11)).off + 1, none⟩ = some (.string y.f1.f0) ∧ w'.cell? ⟨(ad2.add (i.toNat * 11)).block, (ad2.add (i.toNat * 11)).off + 2, none⟩ = some (.int .i64 y.f1.f1) ∧ w'.cell? ⟨(ad2.add (i.toNat * 11)).block, (ad2.add (i.toNat * 11)).off + 3, none⟩ = some (.string y.f2.f0) ∧ w'.cell? ⟨(ad2.add (i.toNat * 11)).block, (ad2.add (i.toNat * 11)).off + 4, none⟩ = some (.int .i64 y.f2.f1) ∧ w'.cell? ⟨(ad2.add (i.toNat * 11)).block, (ad2.add (i.toNat * 11)).off + 5, none⟩ = some (.string y.f3.f0) ∧ w'.cell? ⟨(ad2.add (i.toNat * 11)).block, (ad2.add (i.toNat * 11)).off + 6, none⟩ = some (.int .i64 y.f3.f1) ∧ w'.cell? ⟨(ad2.add (i.toNat * 11)).block, (ad2.add (i.toNat * 11)).off + 7, none⟩ = some (.string y.f4.f0) ∧ w'.cell? ⟨(ad2.add (i.toNat * 11)).block, (ad2.add (i.toNat * 11)).off + 8, none⟩ = some (.int .i64 y.f4.f1) ∧ w'.cell? ⟨(ad2.add (i.toNat * 11)).block, (ad2.add (i.toNat * 11)).off + 9, none⟩ = some (.string y.f5) ∧ w'.cell? ⟨(ad2.add (i.toNat * 11)).block, (ad2.add (i.toNat * 11)).off + 10, none⟩ = some (.slice B2 y.f6.length d2)) (ds := []) #[false, false, false, false, false, false, false, false, false, false, false, false] (by kernel_rfl) rfl rfl ⟨h10, h20, x1_0, x1_1, x1_2, x1_3, x1_4, x1_5, x1_6, x1_7, x1_8, x1_9, x1_10, x2_0, x2_1, x2_2, x2_3, x2_4, x2_5, x2_6, x2_7, x2_8, x2_9, x2_10⟩ (fun hHeld => ?_)
    refine pure_ (i := 0) (N := some 62) (v := ?_) (a' := ?_) #[true, false, false, false, false, false, false, false, false, false, false, false] rfl rfl (by kernel_rfl) (fun _ _ _ h => h) (Or.inl ⟨by rfl, ?_⟩) ?_ ?_
    rotate_left
    ·intro w'
     go_simp
     try with_reducible rfl
    rotate_left
    ·simp only [putAll, Act.put, sI, s0', s1']
     rfl
    refine pure_ (i := 2) (N := some 64) (v := ?_) (a' := ?_) #[true, false, true, false, false, false, false, false, false, false, false, false] rfl rfl (by kernel_rfl) (fun _ _ _ h => h) (Or.inl ⟨by rfl, ?_⟩) ?_ ?_
    rotate_left
    ·intro w'
     go_simp
     try with_reducible rfl
    rotate_left
    ·simp only [putAll, Act.put, sI, s0', s1']
     rfl
    refine pure_ (i := 5) (N := some 67) (v := ?_) (a' := ?_) #[true, false, true, false, false, true, false, false, false, false, false, false] rfl rfl (by kernel_rfl) (fun _ _ _ h => h) (Or.inl ⟨by rfl, ?_⟩) ?_ ?_
    rotate_left
    ·intro w'
     go_simp
     try with_reducible rfl
    rotate_left
    ·simp only [putAll, Act.put, sI, s0', s1']
     rfl
    refine pure_ (i := 7) (N := some 69) (v := ?_) (a' := ?_) #[true, false, true, false, false, true, false, true, false, false, false, false] rfl rfl (by kernel_rfl) (fun _ _ _ h => h) (Or.inl ⟨by rfl, ?_⟩) ?_ ?_
    rotate_left
    ·intro w'
     go_simp
     try with_reducible rfl
    rotate_left
    ·simp only [putAll, Act.put, sI, s0', s1']
     rfl
    refine take_ (i := 1) (N := some 63) (v := ?_) (a' := ?_) #[true, true, true, false, false, true, false, true, false, false, false, false] rfl rfl (by kernel_rfl) (fun _ _ _ h => h) (Or.inl ⟨by rfl, ?_⟩) hHeld ?_ ?_
    rotate_left
    ·rintro w' ⟨s0, s1, s2, s3, s4, s5, s6, s7, s8, s9, s10, s11, s12, s13, s14, s15, s16, s17, s18, s19, s20, s21, s22, s23⟩
     go_simp
     try with_reducible rfl
    rotate_left
    ·simp only [putAll, Act.put, sI, s0', s1']
     rfl
    refine pure_ (i := 3) (N := some 65) (v := ?_) (a' := ?_) #[true, true, true, true, false, true, false, true, false, false, false, false] rfl rfl (by kernel_rfl) (fun _ _ _ h => h) (Or.inl ⟨by rfl, ?_⟩) ?_ ?_
    rotate_left
    ·intro w'
     go_simp
     try with_reducible rfl
    rotate_left
    ·simp only [putAll, Act.put, sI, s0', s1']
     rfl
    refine take_ (i := 4) (N := some 66) (v := ?_) (a' := ?_) #[true, true, true, true, true, true, false, true, false, false, false, false] rfl rfl (by kernel_rfl) (fun _ _ _ h => h) (Or.inl ⟨by rfl, ?_⟩) hHeld ?_ ?_
    rotate_left
    ·rintro w' ⟨s0, s1, s2, s3, s4, s5, s6, s7, s8, s9, s10, s11, s12, s13, s14, s15, s16, s17, s18, s19, s20, s21, s22, s23⟩
     go_simp
     try with_reducible rfl
    rotate_left
    ·simp only [putAll, Act.put, sI, s0', s1']
     rfl
    refine take_ (i := 6) (N := some 68) (v := ?_) (a' := ?_) #[true, true, true, true, true, true, true, true, false, false, false, false] rfl rfl (by kernel_rfl) (fun _ _ _ h => h) (Or.inl ⟨by rfl, ?_⟩) hHeld ?_ ?_
    rotate_left
    ·rintro w' ⟨s0, s1, s2, s3, s4, s5, s6, s7, s8, s9, s10, s11, s12, s13, s14, s15, s16, s17, s18, s19, s20, s21, s22, s23⟩
     go_simp
     try with_reducible rfl
    rotate_left
    ·simp only [putAll, Act.put, sI, s0', s1']
     rfl
    refine pure_ (i := 8) (N := some 70) (v := ?_) (a' := ?_) #[true, true, true, true, true, true, true, true, true, false, false, false] rfl rfl (by kernel_rfl) (fun _ _ _ h => h) (Or.inl ⟨by rfl, ?_⟩) ?_ ?_
    rotate_left
    ·intro w'
     go_simp
     try with_reducible rfl
    rotate_left
    ·simp only [putAll, Act.put, sI, s0', s1']
     rfl
    refine take_ (i := 9) (N := some 71) (v := ?_) (a' := ?_) #[true, true, true, true, true, true, true, true, true, true, false, false] rfl rfl (by kernel_rfl) (fun _ _ _ h => h) (Or.inl ⟨by rfl, ?_⟩) hHeld ?_ ?_
    rotate_left
    ·rintro w' ⟨s0, s1, s2, s3, s4, s5, s6, s7, s8, s9, s10, s11, s12, s13, s14, s15, s16, s17, s18, s19, s20, s21, s22, s23⟩
     go_simp
     try with_reducible rfl
    rotate_left
    ·simp only [putAll, Act.put, sI, s0', s1']
     rfl
    refine one_ (i := 10) (N := some 72) #[true, true, true, true, true, true, true, true, true, true, true, false] rfl rfl (by kernel_rfl) (by decide) (fun K hK => ?_)
    refine step_goes Tryd.func30 (by kernel_rfl) rfl #[.agg #[.int .i64 y.f0, .string y.f1.f0, .int .i64 y.f1.f1, .string y.f2.f0, .int .i64 y.f2.f1, .string y.f3.f0, .int .i64 y.f3.f1, .string y.f4.f0, .int .i64 y.f4.f1, .string y.f5, .slice B1 y.f6.length d1], .agg #[.int .i64 y.f0, .string y.f1.f0, .int .i64 y.f1.f1, .string y.f2.f0, .int .i64 y.f2.f1, .string y.f3.f0, .int .i64 y.f3.f1, .string y.f4.f0, .int .i64 y.f4.f1, .string y.f5, .slice B2 y.f6.length d2]] (by rfl) rfl rfl (by (try simp only [List.map_toArray, List.map_cons, List.map_nil]); rfl) ?_
    refine (HIH.out y B1 d1 B2 d2 _ HY.out (Kd.C_below HK1.out (below_drew (bR wr.heap.size wr))) (Kd.C_below HK2.out (below_drew (bR wr.heap.size wr)))).mono ?_
    rintro e w2 ⟨rfl, hb⟩
    have HX3 := aS (fbelow (heap_drew HX1.out) hb)
    have HX4 := aS (fbelow (heap_drew HX2.out) hb)
    have HB2 := aS (show Below g1 w w2 by rw [← hg1]; exact below_step (below_drew1 (hg1.symm ▸ HB.out)) hb)
    refine hK.out _ _ (by obtain ⟨s0, s1, s2, s3, s4, s5, s6, s7, s8, s9, s10, s11, s12, s13, s14, s15, s16, s17, s18, s19, s20, s21, s22, s23⟩ := hHeld; exact ⟨(hb.cell (World.block_lt_of_cell? _ _ s0)).trans s0, (hb.cell (World.block_lt_of_cell? _ _ s1)).trans s1, (hb.cell (World.block_lt_of_cell? _ _ s2)).trans s2, (hb.cell (World.block_lt_of_cell? _ _ s3)).trans s3, (hb.cell (World.block_lt_of_cell? _ _ s4)).trans s4, (hb.cell (World.block_lt_of_cell? _ _ s5)).trans s5, (hb.cell (World.block_lt_of_cell? _ _ s6)).trans s6, (hb.cell (World.block_lt_of_cell? _ _ s7)).trans s7, (hb.cell (World.block_lt_of_cell? _ _ s8)).trans s8, (hb.cell (World.block_lt_of_cell? _ _ s9)).trans s9, (hb.cell (World.block_lt_of_cell? _ _ s10)).trans s10, (hb.cell (World.block_lt_of_cell? _ _ s11)).trans s11, (hb.cell (World.block_lt_of_cell? _ _ s12)).trans s12, (hb.cell (World.block_lt_of_cell? _ _ s13)).trans s13, (hb.cell (World.block_lt_of_cell? _ _ s14)).trans s14, (hb.cell (World.block_lt_of_cell? _ _ s15)).trans s15, (hb.cell (World.block_lt_of_cell? _ _ s16)).trans s16, (hb.cell (World.block_lt_of_cell? _ _ s17)).trans s17, (hb.cell (World.block_lt_of_cell? _ _ s18)).trans s18, (hb.cell (World.block_lt_of_cell? _ _ s19)).trans s19, (hb.cell (World.block_lt_of_cell? _ _ s20)).trans s20, (hb.cell (World.block_lt_of_cell? _ _ s21)).trans s21, (hb.cell (World.block_lt_of_cell? _ _ s22)).trans s22, (hb.cell (World.block_lt_of_cell? _ _ s23)).trans s23⟩) (fun hHeld => ?_)
    clear hK K
    refine norm_ (a' := ?_) ?_ ?_
    rotate_left
    ·show Act.put _ (some 72) _ = _
     simp only [putAll, Act.put, sI, s0', s1']
     rfl
    refine pure_ (i := 11) (N := some 73) (v := ?_) (a' := ?_) #[true, true, true, true, true, true, true, true, true, true, true, true] rfl rfl (by kernel_rfl) (fun _ _ _ h => h) (Or.inl ⟨by rfl, ?_⟩) ?_ ?_
    rotate_left
    ·intro w'
     go_simp
     try with_reducible rfl
    rotate_left
    ·simp only [putAll, Act.put, sI, s0', s1']
     rfl
    refine done_ (by kernel_rfl) ?_
    clear hb hHeld x1_0 x1_1 x1_2 x1_3 x1_4 x1_5 x1_6 x1_7 x1_8 x1_9 x1_10 x2_0 x2_1 x2_2 x2_3 x2_4 x2_5 x2_6 x2_7 x2_8 x2_9 x2_10
    try go_wp2
    go_roundg (gk - 1)
    case measure => have := HK.out; have := HLT.out; omega
    case rel => exact ⟨i + 1, by have h1 := HI0.out; have h2 := HLT.out; have h3 := HM.out; rw [show wrap64 (i + 1) = i + 1 by unfold wrap64; omega], by have := HI0.out; omega, by have := HLT.out; omega, by have := HK.out; have := HLT.out; omega, HX3, HX4, HB2⟩
   ·have hd1 : decide (i < (x.f6.length : Int)) = false := decide_eq_false hlt
    have h10 := cH HX1.out 10
    go_wp2
    go_ret
    exact ⟨rfl, hg1.symm ▸ HB.out⟩
set_option maxHeartbeats 8000000 in
set_option maxRecDepth 100000 in
theorem same_item (x : Itm) (Al0 : Option Addr) (cl0 : Nat) (Al1 : Option Addr) (cl1 : Nat) (Al2 : Option Addr) (cl2 : Nat) (Al3 : Option Addr) (cl3 : Nat) (Al4 : Option Addr) (cl4 : Nat) (Ar0 : Option Addr) (cr0 : Nat) (Ar1 : Option Addr) (cr1 : Nat) (Ar2 : Option Addr) (cr2 : Nat) (Ar3 : Option Addr) (cr3 : Nat) (Ar4 : Option Addr) (cr4 : Nat) (w : World) (hl0 : Kd.C k51 w Al0 x.f5.length x.f5) (hl1 : Kd.C k79 w Al1 x.f6.length x.f6) (hl2 : Kd.C k56 w Al2 x.f7.f6.length x.f7.f6) (hl3 : Kd.C k56 w Al3 x.f8.f6.length x.f8.f6) (hl4 : Kd.C k56 w Al4 x.f9.f6.length x.f9.f6) (hr0 : Kd.C k51 w Ar0 x.f5.length x.f5) (hr1 : Kd.C k79 w Ar1 x.f6.length x.f6) (hr2 : Kd.C k56 w Ar2 x.f7.f6.length x.f7.f6) (hr3 : Kd.C k56 w Ar3 x.f8.f6.length x.f8.f6) (hr4 : Kd.C k56 w Ar4 x.f9.f6.length x.f9.f6) :
  Calls Tryd.prog 17 #[.agg (itV x (.slice Al0 x.f5.length cl0) (.slice Al1 x.f6.length cl1) (.slice Al2 x.f7.f6.length cl2) (.slice Al3 x.f8.f6.length cl3) (.slice Al4 x.f9.f6.length cl4)), .agg (itV x (.slice Ar0 x.f5.length cr0) (.slice Ar1 x.f6.length cr1) (.slice Ar2 x.f7.f6.length cr2) (.slice Ar3 x.f8.f6.length cr3) (.slice Ar4 x.f9.f6.length cr4))] w fun e w' => e = .returned (.bool true) ∧ Below w.heap.size w w' := by
 have HE : ∀ (y : Ex) (B1 : Option Addr) (d1 : Nat) (B2 : Option Addr) (d2 : Nat) (w : World), Kd.C k56 w B1 y.f6.length y.f6 → Kd.C k56 w B2 y.f6.length y.f6 → Calls Tryd.prog 30 #[.agg (exV y (.slice B1 y.f6.length d1)), .agg (exV y (.slice B2 y.f6.length d2))] w fun e w' => e = .returned (.bool true) ∧ Below w.heap.size w w' := fun y B1 d1 B2 d2 w h1 h2 => same_expr (deepE y + 1) y B1 d1 B2 d2 w (by omega) h1 h2
 have HIH := aS HE
 clear HE
 have hb1 := below_alloc (bR w.heap.size w) (.cells (itV x (.slice Al0 x.f5.length cl0) (.slice Al1 x.f6.length cl1) (.slice Al2 x.f7.f6.length cl2) (.slice Al3 x.f8.f6.length cl3) (.slice Al4 x.f9.f6.length cl4)) 58)
 have hx1 := (MapKept.heap_alloc w (.cells (itV x (.slice Al0 x.f5.length cl0) (.slice Al1 x.f6.length cl1) (.slice Al2 x.f7.f6.length cl2) (.slice Al3 x.f8.f6.length cl3) (.slice Al4 x.f9.f6.length cl4)) 58)).1
 have hz1 : (w.alloc (.cells (itV x (.slice Al0 x.f5.length cl0) (.slice Al1 x.f6.length cl1) (.slice Al2 x.f7.f6.length cl2) (.slice Al3 x.f8.f6.length cl3) (.slice Al4 x.f9.f6.length cl4)) 58)).heap.size = w.heap.size + 1 := by show (w.heap.push _).size = _; simp
 have hb2 := below_alloc hb1 (.cells (itV x (.slice Ar0 x.f5.length cr0) (.slice Ar1 x.f6.length cr1) (.slice Ar2 x.f7.f6.length cr2) (.slice Ar3 x.f8.f6.length cr3) (.slice Ar4 x.f9.f6.length cr4)) 58)
 have hx2 := (MapKept.heap_alloc (w.alloc (.cells (itV x (.slice Al0 x.f5.length cl0) (.slice Al1 x.f6.length cl1) (.slice Al2 x.f7.f6.length cl2) (.slice Al3 x.f8.f6.length cl3) (.slice Al4 x.f9.f6.length cl4)) 58)) (.cells (itV x (.slice Ar0 x.f5.length cr0) (.slice Ar1 x.f6.length cr1) (.slice Ar2 x.f7.f6.length cr2) (.slice Ar3 x.f8.f6.length cr3) (.slice Ar4 x.f9.f6.length cr4)) 58)).1
 rw [hz1] at hx2
 have hx12 := fbelow hx1 (below_alloc (bR (w.alloc (.cells (itV x (.slice Al0 x.f5.length cl0) (.slice Al1 x.f6.length cl1) (.slice Al2 x.f7.f6.length cl2) (.slice Al3 x.f8.f6.length cl3) (.slice Al4 x.f9.f6.length cl4)) 58)).heap.size (w.alloc (.cells (itV x (.slice Al0 x.f5.length cl0) (.slice Al1 x.f6.length cl1) (.slice Al2 x.f7.f6.length cl2) (.slice Al3 x.f8.f6.length cl3) (.slice Al4 x.f9.f6.length cl4)) 58))) (.cells (itV x (.slice Ar0 x.f5.length cr0) (.slice Ar1 x.f6.length cr1) (.slice Ar2 x.f7.f6.length cr2) (.slice Ar3 x.f8.f6.length cr3) (.slice Ar4 x.f9.f6.length cr4)) 58))
 have HB := aS hb2
 have HX1 := aS hx12
 have HX2 := aS hx2
 have HMA := aS hl0.2.1
 have HMB := aS hl1.2.1
 have Hl0 := aS hl0
 have Hl1 := aS hl1
 have Hl2 := aS hl2
 have Hl3 := aS hl3
 have Hl4 := aS hl4
 have Hr0 := aS hr0
 have Hr1 := aS hr1
 have Hr2 := aS hr2
 have Hr3 := aS hr3
 have Hr4 := aS hr4
 clear hb1 hx1 hz1 hb2 hx2 hx12 hl0 hl1 hl2 hl3 hl4 hr0 hr1 hr2 hr3 hr4
 go_enter Tryd.func17, Tryd.ntmps17
 go_upto_region 1 with (fail)
 generalize (w.alloc (.cells (itV x (.slice Al0 x.f5.length cl0) (.slice Al1 x.f6.length cl1) (.slice Al2 x.f7.f6.length cl2) (.slice Al3 x.f8.f6.length cl3) (.slice Al4 x.f9.f6.length cl4)) 58)).alloc (.cells (itV x (.slice Ar0 x.f5.length cr0) (.slice Ar1 x.f6.length cr1) (.slice Ar2 x.f7.f6.length cr2) (.slice Ar3 x.f8.f6.length cr3) (.slice Ar4 x.f9.f6.length cr4)) 58) = w1 at *
 generalize hg1 : w.heap.size = g1 at *
 obtain ⟨g2, hg2⟩ : ∃ g2, g1 + 1 = g2 := ⟨_, rfl⟩
 rw [hg2] at HX2
 rw [hg2]
 have j0 := cH HX1.out 0
 have j1 := cH HX1.out 1
 have j2 := cH HX1.out 2
 have j3 := cH HX1.out 3
 have j4 := cH HX1.out 4
 have j5 := cH HX1.out 5
 have j6 := cH HX1.out 6
 have j7 := cH HX1.out 7
 have j8 := cH HX1.out 8
 have k0 := cH HX2.out 0
 have k1 := cH HX2.out 1
 have k2 := cH HX2.out 2
 have k3 := cH HX2.out 3
 have k4 := cH HX2.out 4
 have k5 := cH HX2.out 5
 have k6 := cH HX2.out 6
 have k7 := cH HX2.out 7
 have k8 := cH HX2.out 8
 go_upto_region 3 with (fail)
 clear j0 k0 j1 k1 j2 k2 j3 k3 j4 k4 j5 k5 j6 k6 j7 k7 j8 k8
 go_wp2
 try simp only [Act.put, List.setIfInBounds_toArray, List.set_cons_succ, List.set_cons_zero]
 go_loopg [5] x.f5.length (fun kq v5 w' => ∃ i : Int, v5 = .int .i64 i ∧ 0 ≤ i ∧ i ≤ (x.f5.length : Int) ∧ (kq : Int) = x.f5.length - i ∧ Aside0 (w'.heap[g1]? = some (.cells (itV x (.slice Al0 x.f5.length cl0) (.slice Al1 x.f6.length cl1) (.slice Al2 x.f7.f6.length cl2) (.slice Al3 x.f8.f6.length cl3) (.slice Al4 x.f9.f6.length cl4)) 58)) ∧ Aside0 (w'.heap[g2]? = some (.cells (itV x (.slice Ar0 x.f5.length cr0) (.slice Ar1 x.f6.length cr1) (.slice Ar2 x.f7.f6.length cr2) (.slice Ar3 x.f8.f6.length cr3) (.slice Ar4 x.f9.f6.length cr4)) 58)) ∧ Aside0 (Below g1 w w'))
 case atStart => exact ⟨0, rfl, by omega, by omega, by omega, HX1, HX2, HB⟩
 case round =>
  clear HX1 HX2 HB
  obtain ⟨i, rfl, hi0, hi, hk, HX1, HX2, HB⟩ := hrel
  by_cases hlt : i < (x.f5.length : Int)
  ·have HK := aS hk
   have HLT := aS hlt
   have hd1 : decide (i < (x.f5.length : Int)) = true := decide_eq_true hlt
   clear hk
   have h10 := cH HX1.out 7
   have h20 := cH HX2.out 7
   obtain ⟨adl, el, xl_0, xl_1⟩ := at_T51 (Kd.C_below Hl0.out (hg1 ▸ HB.out)) i hi0 hlt
   subst el
   obtain ⟨adr, er, xr_0, xr_1⟩ := at_T51 (Kd.C_below Hr0.out (hg1 ▸ HB.out)) i hi0 hlt
   subst er
   generalize rd_T51 x.f5 i = y at *
   have HI0 := aS hi0
   replace hi0 := eq_true hi0
   replace hlt := eq_true hlt
   go_upto_region 6 with (fail)
   refine start_ (n := 11) (S := fun w' => w'.cell? ⟨g1, 7, none⟩ = some (.slice (some adl) x.f5.length cl0) ∧ w'.cell? ⟨g2, 7, none⟩ = some (.slice (some adr) x.f5.length cr0) ∧ w'.cell? (adl.add (i.toNat * 2)) = some (.string y.f0) ∧ w'.cell? ⟨(adl.add (i.toNat * 2)).block, (adl.add (i.toNat * 2)).off + 1, none⟩ = some (.int .i64 y.f1) ∧ w'.cell? (adr.add (i.toNat * 2)) = some (.string y.f0) ∧ w'.cell? ⟨(adr.add (i.toNat * 2)).block, (adr.add (i.toNat * 2)).off + 1, none⟩ = some (.int .i64 y.f1)) (ds := []) #[false, false, false, false, false, false, false, false, false, false, false] (by kernel_rfl) rfl rfl ⟨h10, h20, xl_0, xl_1, xr_0, xr_1⟩ (fun hHeld => ?_)
   refine pure_ (i := 0) (N := some 65) (v := ?_) (a' := ?_) #[true, false, false, false, false, false, false, false, false, false, false] rfl rfl (by kernel_rfl) (fun _ _ _ h => h) (Or.inl ⟨by rfl, ?_⟩) ?_ ?_
   rotate_left
   ·intro w'
    go_simp
    try with_reducible rfl
   rotate_left
   ·simp only [putAll, Act.put, sI, s0', s1']
    rfl
   refine pure_ (i := 2) (N := some 67) (v := ?_) (a' := ?_) #[true, false, true, false, false, false, false, false, false, false, false] rfl rfl (by kernel_rfl) (fun _ _ _ h => h) (Or.inl ⟨by rfl, ?_⟩) ?_ ?_
   rotate_left
   ·intro w'
    go_simp
    try with_reducible rfl
   rotate_left
   ·simp only [putAll, Act.put, sI, s0', s1']
    rfl
   refine pure_ (i := 5) (N := some 70) (v := ?_) (a' := ?_) #[true, false, true, false, false, true, false, false, false, false, false] rfl rfl (by kernel_rfl) (fun _ _ _ h => h) (Or.inl ⟨by rfl, ?_⟩) ?_ ?_
   rotate_left
   ·intro w'
    go_simp
    try with_reducible rfl
   rotate_left
   ·simp only [putAll, Act.put, sI, s0', s1']
    rfl
   refine pure_ (i := 7) (N := some 72) (v := ?_) (a' := ?_) #[true, false, true, false, false, true, false, true, false, false, false] rfl rfl (by kernel_rfl) (fun _ _ _ h => h) (Or.inl ⟨by rfl, ?_⟩) ?_ ?_
   rotate_left
   ·intro w'
    go_simp
    try with_reducible rfl
   rotate_left
   ·simp only [putAll, Act.put, sI, s0', s1']
    rfl
   refine take_ (i := 1) (N := some 66) (v := ?_) (a' := ?_) #[true, true, true, false, false, true, false, true, false, false, false] rfl rfl (by kernel_rfl) (fun _ _ _ h => h) (Or.inl ⟨by rfl, ?_⟩) hHeld ?_ ?_
   rotate_left
   ·rintro w' ⟨s0, s1, s2, s3, s4, s5⟩
    go_simp
    try with_reducible rfl
   rotate_left
   ·simp only [putAll, Act.put, sI, s0', s1']
    rfl
   refine pure_ (i := 3) (N := some 68) (v := ?_) (a' := ?_) #[true, true, true, true, false, true, false, true, false, false, false] rfl rfl (by kernel_rfl) (fun _ _ _ h => h) (Or.inl ⟨by rfl, ?_⟩) ?_ ?_
   rotate_left
   ·intro w'
    go_simp
    try with_reducible rfl
   rotate_left
   ·simp only [putAll, Act.put, sI, s0', s1']
    rfl
   refine take_ (i := 4) (N := some 69) (v := ?_) (a' := ?_) #[true, true, true, true, true, true, false, true, false, false, false] rfl rfl (by kernel_rfl) (fun _ _ _ h => h) (Or.inl ⟨by rfl, ?_⟩) hHeld ?_ ?_
   rotate_left
   ·rintro w' ⟨s0, s1, s2, s3, s4, s5⟩
    go_simp
    try with_reducible rfl
   rotate_left
   ·simp only [putAll, Act.put, sI, s0', s1']
    rfl
   refine take_ (i := 6) (N := some 71) (v := ?_) (a' := ?_) #[true, true, true, true, true, true, true, true, false, false, false] rfl rfl (by kernel_rfl) (fun _ _ _ h => h) (Or.inl ⟨by rfl, ?_⟩) hHeld ?_ ?_
   rotate_left
   ·rintro w' ⟨s0, s1, s2, s3, s4, s5⟩
    go_simp
    try with_reducible rfl
   rotate_left
   ·simp only [putAll, Act.put, sI, s0', s1']
    rfl
   refine pure_ (i := 8) (N := some 73) (v := ?_) (a' := ?_) #[true, true, true, true, true, true, true, true, true, false, false] rfl rfl (by kernel_rfl) (fun _ _ _ h => h) (Or.inl ⟨by rfl, ?_⟩) ?_ ?_
   rotate_left
   ·intro w'
    go_simp
    try with_reducible rfl
   rotate_left
   ·simp only [putAll, Act.put, sI, s0', s1']
    rfl
   refine take_ (i := 9) (N := some 74) (v := ?_) (a' := ?_) #[true, true, true, true, true, true, true, true, true, true, false] rfl rfl (by kernel_rfl) (fun _ _ _ h => h) (Or.inl ⟨by rfl, ?_⟩) hHeld ?_ ?_
   rotate_left
   ·rintro w' ⟨s0, s1, s2, s3, s4, s5⟩
    go_simp
    try with_reducible rfl
   rotate_left
   ·simp only [putAll, Act.put, sI, s0', s1']
    rfl
   refine pure_ (i := 10) (N := some 75) (v := ?_) (a' := ?_) #[true, true, true, true, true, true, true, true, true, true, true] rfl rfl (by kernel_rfl) (fun _ _ _ h => h) (Or.inl ⟨by rfl, ?_⟩) ?_ ?_
   rotate_left
   ·intro w'
    go_simp
    try with_reducible rfl
   rotate_left
   ·simp only [putAll, Act.put, sI, s0', s1']
    rfl
   refine done_ (by kernel_rfl) ?_
   have HX3 := aS (heap_drew HX1.out)
   have HX4 := aS (heap_drew HX2.out)
   have HB2 := aS (show Below g1 w wr.drew by rw [← hg1]; exact below_drew1 (hg1.symm ▸ HB.out))
   clear hHeld xl_0 xl_1 xr_0 xr_1
   try go_wp2
   go_roundg (gk - 1)
   case measure => have := HK.out; have := HLT.out; omega
   case rel => exact ⟨i + 1, by have h1 := HI0.out; have h2 := HLT.out; have h3 := HMA.out; rw [show wrap64 (i + 1) = i + 1 by unfold wrap64; omega], by have := HI0.out; omega, by have := HLT.out; omega, by have := HK.out; have := HLT.out; omega, HX3, HX4, HB2⟩
  ·have hd1 : decide (i < (x.f5.length : Int)) = false := decide_eq_false hlt
   have h10 := cH HX1.out 7
   have h20 := cH HX2.out 7
   go_upto_region 8 with (fail)
   generalize wr = w1 at *
   go_wp2
   try simp only [Act.put, List.setIfInBounds_toArray, List.set_cons_succ, List.set_cons_zero]
   go_loopg [6] x.f6.length (fun kq v6 w' => ∃ i : Int, v6 = .int .i64 i ∧ 0 ≤ i ∧ i ≤ (x.f6.length : Int) ∧ (kq : Int) = x.f6.length - i ∧ Aside0 (w'.heap[g1]? = some (.cells (itV x (.slice Al0 x.f5.length cl0) (.slice Al1 x.f6.length cl1) (.slice Al2 x.f7.f6.length cl2) (.slice Al3 x.f8.f6.length cl3) (.slice Al4 x.f9.f6.length cl4)) 58)) ∧ Aside0 (w'.heap[g2]? = some (.cells (itV x (.slice Ar0 x.f5.length cr0) (.slice Ar1 x.f6.length cr1) (.slice Ar2 x.f7.f6.length cr2) (.slice Ar3 x.f8.f6.length cr3) (.slice Ar4 x.f9.f6.length cr4)) 58)) ∧ Aside0 (Below g1 w w'))
   case atStart => exact ⟨0, rfl, by omega, by omega, by omega, HX1, HX2, HB⟩
   case round =>
    clear HX1 HX2 HB
    obtain ⟨i, rfl, hi0, hi, hk, HX1, HX2, HB⟩ := hrel
    by_cases hlt : i < (x.f6.length : Int)
    ·have HK := aS hk
     have HLT := aS hlt
     have hd1 : decide (i < (x.f6.length : Int)) = true := decide_eq_true hlt
     clear hk
     have h10 := cH HX1.out 8
     have h20 := cH HX2.out 8
     obtain ⟨adl, Bl, dl, el, xl_0, xl_1, xl_2, xl_3, xl_4, xl_5, xl_6, xl_7, xl_8, xl_9, xl_10, xl_11, hll, hcl⟩ := at_T79 (Kd.C_below Hl1.out (hg1 ▸ HB.out)) i hi0 hlt
     subst el
     have HKl := aS hcl
     clear hcl
     obtain ⟨adr, Br, dr, er, xr_0, xr_1, xr_2, xr_3, xr_4, xr_5, xr_6, xr_7, xr_8, xr_9, xr_10, xr_11, hlr, hcr⟩ := at_T79 (Kd.C_below Hr1.out (hg1 ▸ HB.out)) i hi0 hlt
     subst er
     have HKr := aS hcr
     clear hcr
     generalize rd_T79 x.f6 i = y at *
     have HI0 := aS hi0
     replace hi0 := eq_true hi0
     replace hlt := eq_true hlt
     go_upto_region 11 with (fail)
     refine start_ (n := 29) (S := fun w' => w'.cell? ⟨g1, 8, none⟩ = some (.slice (some adl) x.f6.length cl1) ∧ w'.cell? ⟨g2, 8, none⟩ = some (.slice (some adr) x.f6.length cr1) ∧ w'.cell? (adl.add (i.toNat * 12)) = some (.string y.f0) ∧ w'.cell? ⟨(adl.add (i.toNat * 12)).block, (adl.add (i.toNat * 12)).off + 1, none⟩ = some (.int .i64 y.f1.f0) ∧ w'.cell? ⟨(adl.add (i.toNat * 12)).block, (adl.add (i.toNat * 12)).off + 2, none⟩ = some (.string y.f1.f1.f0) ∧ w'.cell? ⟨(adl.add (i.toNat * 12)).block, (adl.add (i.toNat * 12)).off + 3, none⟩ = some (.int .i64 y.f1.f1.f1) ∧ w'.cell? ⟨(adl.add (i.toNat * 12)).block, (adl.add (i.toNat * 12)).off + 4, none⟩ = some (.string y.f1.f2.f0) ∧ w'.cell? ⟨(adl.add (i.toNat * 12)).block, (adl.add (i.toNat * 12)).off + 5, none⟩ = some (.int .i64 y.f1.f2.f1) ∧ w'.cell? ⟨(adl.add (i.toNat * 12)).block, (adl.add (i.toNat * 12)).off + 6, none⟩ = some (.string y.f1.f3.f0) ∧ w'.cell? ⟨(adl.add (i.toNat * 12)).block, (adl.add (i.toNat * 12)).off + 7, none⟩ = some (.int .i64 y.f1.f3.f1) ∧ w'.cell? ⟨(adl.add (i.toNat * 12)).block, (adl.add (i.toNat * 12)).off + 8, none⟩ = some (.string y.f1.f4.f0) ∧ w'.cell? ⟨(adl.add (i.toNat * 12)).block, (adl.add (i.toNat * 12)).off + 9, none⟩ = some (.int .i64 y.f1.f4.f1) ∧ w'.cell? ⟨(adl.add (i.toNat * 12)).block, (adl.add (i.toNat * 12)).off + 10, none⟩ = some (.string y.f1.f5) ∧ w'.cell? ⟨(adl.add (i.toNat * 12)).block, (adl.add (i.toNat * 12)).off + 11, none⟩ = some (.slice Bl y.f1.f6.length dl) ∧ w'.cell? (adr.add (i.toNat * 12)) = some (.string y.f0) ∧ w'.cell? ⟨(adr.add (i.toNat * 12)).block, (adr.add (i.toNat * 12)).off + 1, none⟩ = some (.int .i64 y.f1.f0) ∧ w'.cell? ⟨(adr.add (i.toNat * 12)).block, (adr.add (i.toNat * 12)).off + 2, none⟩ = some (.string y.f1.f1.f0) ∧ w'.cell? ⟨(adr.add (i.toNat * 12)).block, (adr.add (i.toNat * 12)).off + 3, none⟩ = some (.int .i64 y.f1.f1.f1) ∧ w'.cell? ⟨(adr.add (i.toNat * 12)).block, (adr.add (i.toNat * 12)).off + 4, none⟩ = some (.string y.f1.f2.f0) ∧ w'.cell? ⟨(adr.add (i.toNat * 12)).block, (adr.add (i.toNat * 12)).off + 5, none⟩ = some (.int .i64 y.f1.f2.f1) ∧ w'.cell? ⟨(adr.add (i.toNat * 12)).block, (adr.add (i.toNat * 12)).off + 6, none⟩ = some (.string y.f1.f3.f0) ∧ w'.cell? ⟨(adr.add (i.toNat * 12)).block, (adr.add (i.toNat * 12)).off + 7, none⟩ = some (.int .i64 y.f1.f3.f1) ∧ w'.cell? ⟨(adr.add (i.toNat * 12)).block, (adr.add (i.toNat * 12)).off + 8, none⟩ = some (.string y.f1.f4.f0) ∧ w'.cell? ⟨(adr.add (i.toNat * 12)).block, (adr.add (i.toNat * 12)).off + 9, none⟩ = some (.int .i64 y.f1.f4.f1) ∧ w'.cell? ⟨(adr.add (i.toNat * 12)).block, (adr.add (i.toNat * 12)).off + 10, none⟩ = some (.string y.f1.f5) ∧ w'.cell? ⟨(adr.add (i.toNat * 12)).block, (adr.add (i.toNat * 12)).off + 11, none⟩ = some (.slice Br y.f1.f6.length dr)) (ds := []) #[false, false, false, false, false, false, false, false, false, false, false, false, false, false, false, false, false, false, false, false, false, false, false, false, false, false, false, false, false] (by kernel_rfl) rfl rfl ⟨h10, h20, xl_0, xl_1, xl_2, xl_3, xl_4, xl_5, xl_6, xl_7, xl_8, xl_9, xl_10, xl_11, xr_0, xr_1, xr_2, xr_3, xr_4, xr_5, xr_6, xr_7, xr_8, xr_9, xr_10, xr_11⟩ (fun hHeld => ?_)
     refine pure_ (i := 0) (N := some 83) (v := ?_) (a' := ?_) #[true, false, false, false, false, false, false, false, false, false, false, false, false, false, false, false, false, false, false, false, false, false, false, false, false, false, false, false, false] rfl rfl (by kernel_rfl) (fun _ _ _ h => h) (Or.inl ⟨by rfl, ?_⟩) ?_ ?_
     rotate_left
     ·intro w'
      go_simp
      try with_reducible rfl
     rotate_left
     ·simp only [putAll, Act.put, sI, s0', s1']
      rfl
     refine take_ (i := 1) (N := some 84) (v := ?_) (a' := ?_) #[true, true, false, false, false, false, false, false, false, false, false, false, false, false, false, false, false, false, false, false, false, false, false, false, false, false, false, false, false] rfl rfl (by kernel_rfl) (fun _ _ _ h => h) (Or.inl ⟨by rfl, ?_⟩) hHeld ?_ ?_
     rotate_left
     ·rintro w' ⟨s0, s1, s2, s3, s4, s5, s6, s7, s8, s9, s10, s11, s12, s13, s14, s15, s16, s17, s18, s19, s20, s21, s22, s23, s24, s25⟩
      go_simp
      try with_reducible rfl
     rotate_left
     ·simp only [putAll, Act.put, sI, s0', s1']
      rfl
     refine pure_ (i := 2) (N := some 85) (v := ?_) (a' := ?_) #[true, true, true, false, false, false, false, false, false, false, false, false, false, false, false, false, false, false, false, false, false, false, false, false, false, false, false, false, false] rfl rfl (by kernel_rfl) (fun _ _ _ h => h) (Or.inl ⟨by rfl, ?_⟩) ?_ ?_
     rotate_left
     ·intro w'
      go_simp
      try with_reducible rfl
     rotate_left
     ·simp only [putAll, Act.put, sI, s0', s1']
      rfl
     refine pure_ (i := 3) (N := some 86) (v := ?_) (a' := ?_) #[true, true, true, true, false, false, false, false, false, false, false, false, false, false, false, false, false, false, false, false, false, false, false, false, false, false, false, false, false] rfl rfl (by kernel_rfl) (fun _ _ _ h => h) (Or.inl ⟨by rfl, ?_⟩) ?_ ?_
     rotate_left
     ·intro w'
      go_simp
      try with_reducible rfl
     rotate_left
     ·simp only [putAll, Act.put, sI, s0', s1']
      rfl
     refine pure_ (i := 4) (N := some 87) (v := ?_) (a' := ?_) #[true, true, true, true, true, false, false, false, false, false, false, false, false, false, false, false, false, false, false, false, false, false, false, false, false, false, false, false, false] rfl rfl (by kernel_rfl) (fun _ _ _ h => h) (Or.inl ⟨by rfl, ?_⟩) ?_ ?_
     rotate_left
     ·intro w'
      go_simp
      try with_reducible rfl
     rotate_left
     ·simp only [putAll, Act.put, sI, s0', s1']
      rfl
     refine take_ (i := 5) (N := some 88) (v := ?_) (a' := ?_) #[true, true, true, true, true, true, false, false, false, false, false, false, false, false, false, false, false, false, false, false, false, false, false, false, false, false, false, false, false] rfl rfl (by kernel_rfl) (fun _ _ _ h => h) (Or.inl ⟨by rfl, ?_⟩) hHeld ?_ ?_
     rotate_left
     ·rintro w' ⟨s0, s1, s2, s3, s4, s5, s6, s7, s8, s9, s10, s11, s12, s13, s14, s15, s16, s17, s18, s19, s20, s21, s22, s23, s24, s25⟩
      go_simp
      try with_reducible rfl
     rotate_left
     ·simp only [putAll, Act.put, sI, s0', s1']
      rfl
     refine pure_ (i := 6) (N := some 89) (v := ?_) (a' := ?_) #[true, true, true, true, true, true, true, false, false, false, false, false, false, false, false, false, false, false, false, false, false, false, false, false, false, false, false, false, false] rfl rfl (by kernel_rfl) (fun _ _ _ h => h) (Or.inl ⟨by rfl, ?_⟩) ?_ ?_
     rotate_left
     ·intro w'
      go_simp
      try with_reducible rfl
     rotate_left
     ·simp only [putAll, Act.put, sI, s0', s1']
      rfl
     refine take_ (i := 7) (N := some 90) (v := ?_) (a' := ?_) #[true, true, true, true, true, true, true, true, false, false, false, false, false, false, false, false, false, false, false, false, false, false, false, false, false, false, false, false, false] rfl rfl (by kernel_rfl) (fun _ _ _ h => h) (Or.inl ⟨by rfl, ?_⟩) hHeld ?_ ?_
     rotate_left
     ·rintro w' ⟨s0, s1, s2, s3, s4, s5, s6, s7, s8, s9, s10, s11, s12, s13, s14, s15, s16, s17, s18, s19, s20, s21, s22, s23, s24, s25⟩
      go_simp
      try with_reducible rfl
     rotate_left
     ·simp only [putAll, Act.put, sI, s0', s1']
      rfl
     refine pure_ (i := 8) (N := some 91) (v := ?_) (a' := ?_) #[true, true, true, true, true, true, true, true, true, false, false, false, false, false, false, false, false, false, false, false, false, false, false, false, false, false, false, false, false] rfl rfl (by kernel_rfl) (fun _ _ _ h => h) (Or.inl ⟨by rfl, ?_⟩) ?_ ?_
     rotate_left
     ·intro w'
      go_simp
      try with_reducible rfl
     rotate_left
     ·simp only [putAll, Act.put, sI, s0', s1']
      rfl
     refine pure_ (i := 9) (N := some 92) (v := ?_) (a' := ?_) #[true, true, true, true, true, true, true, true, true, true, false, false, false, false, false, false, false, false, false, false, false, false, false, false, false, false, false, false, false] rfl rfl (by kernel_rfl) (fun _ _ _ h => h) (Or.inl ⟨by rfl, ?_⟩) ?_ ?_
     rotate_left
     ·intro w'
      go_simp
      try with_reducible rfl
     rotate_left
     ·simp only [putAll, Act.put, sI, s0', s1']
      rfl
     refine pure_ (i := 10) (N := some 93) (v := ?_) (a' := ?_) #[true, true, true, true, true, true, true, true, true, true, true, false, false, false, false, false, false, false, false, false, false, false, false, false, false, false, false, false, false] rfl rfl (by kernel_rfl) (fun _ _ _ h => h) (Or.inl ⟨by rfl, ?_⟩) ?_ ?_
     rotate_left
     ·intro w'
      go_simp
      try with_reducible rfl
     rotate_left
     ·simp only [putAll, Act.put, sI, s0', s1']
      rfl
     refine take_ (i := 11) (N := some 94) (v := ?_) (a' := ?_) #[true, true, true, true, true, true, true, true, true, true, true, true, false, false, false, false, false, false, false, false, false, false, false, false, false, false, false, false, false] rfl rfl (by kernel_rfl) (fun _ _ _ h => h) (Or.inl ⟨by rfl, ?_⟩) hHeld ?_ ?_
     rotate_left
     ·rintro w' ⟨s0, s1, s2, s3, s4, s5, s6, s7, s8, s9, s10, s11, s12, s13, s14, s15, s16, s17, s18, s19, s20, s21, s22, s23, s24, s25⟩
      go_simp
      try with_reducible rfl
     rotate_left
     ·simp only [putAll, Act.put, sI, s0', s1']
      rfl
     refine pure_ (i := 12) (N := some 95) (v := ?_) (a' := ?_) #[true, true, true, true, true, true, true, true, true, true, true, true, true, false, false, false, false, false, false, false, false, false, false, false, false, false, false, false, false] rfl rfl (by kernel_rfl) (fun _ _ _ h => h) (Or.inl ⟨by rfl, ?_⟩) ?_ ?_
     rotate_left
     ·intro w'
      go_simp
      try with_reducible rfl
     rotate_left
     ·simp only [putAll, Act.put, sI, s0', s1']
      rfl
     refine pure_ (i := 13) (N := some 96) (v := ?_) (a' := ?_) #[true, true, true, true, true, true, true, true, true, true, true, true, true, true, false, false, false, false, false, false, false, false, false, false, false, false, false, false, false] rfl rfl (by kernel_rfl) (fun _ _ _ h => h) (Or.inl ⟨by rfl, ?_⟩) ?_ ?_
     rotate_left
     ·intro w'
      go_simp
      try with_reducible rfl
     rotate_left
     ·simp only [putAll, Act.put, sI, s0', s1']
      rfl
     refine pure_ (i := 14) (N := some 97) (v := ?_) (a' := ?_) #[true, true, true, true, true, true, true, true, true, true, true, true, true, true, true, false, false, false, false, false, false, false, false, false, false, false, false, false, false] rfl rfl (by kernel_rfl) (fun _ _ _ h => h) (Or.inl ⟨by rfl, ?_⟩) ?_ ?_
     rotate_left
     ·intro w'
      go_simp
      try with_reducible rfl
     rotate_left
     ·simp only [putAll, Act.put, sI, s0', s1']
      rfl
     refine take_ (i := 15) (N := some 98) (v := ?_) (a' := ?_) #[true, true, true, true, true, true, true, true, true, true, true, true, true, true, true, true, false, false, false, false, false, false, false, false, false, false, false, false, false] rfl rfl (by kernel_rfl) (fun _ _ _ h => h) (Or.inl ⟨by rfl, ?_⟩) hHeld ?_ ?_
     rotate_left
     ·rintro w' ⟨s0, s1, s2, s3, s4, s5, s6, s7, s8, s9, s10, s11, s12, s13, s14, s15, s16, s17, s18, s19, s20, s21, s22, s23, s24, s25⟩
      go_simp
      try with_reducible rfl
     rotate_left
     ·simp only [putAll, Act.put, sI, s0', s1']
      rfl
     refine pure_ (i := 16) (N := some 99) (v := ?_) (a' := ?_) #[true, true, true, true, true, true, true, true, true, true, true, true, true, true, true, true, true, false, false, false, false, false, false, false, false, false, false, false, false] rfl rfl (by kernel_rfl) (fun _ _ _ h => h) (Or.inl ⟨by rfl, ?_⟩) ?_ ?_
     rotate_left
     ·intro w'
      go_simp
      try with_reducible rfl
     rotate_left
     ·simp only [putAll, Act.put, sI, s0', s1']
      rfl
     refine pure_ (i := 17) (N := some 100) (v := ?_) (a' := ?_) #[true, true, true, true, true, true, true, true, true, true, true, true, true, true, true, true, true, true, false, false, false, false, false, false, false, false, false, false, false] rfl rfl (by kernel_rfl) (fun _ _ _ h => h) (Or.inl ⟨by rfl, ?_⟩) ?_ ?_
     rotate_left
     ·intro w'
      go_simp
      try with_reducible rfl
     rotate_left
     ·simp only [putAll, Act.put, sI, s0', s1']
      rfl
     refine pure_ (i := 18) (N := some 101) (v := ?_) (a' := ?_) #[true, true, true, true, true, true, true, true, true, true, true, true, true, true, true, true, true, true, true, false, false, false, false, false, false, false, false, false, false] rfl rfl (by kernel_rfl) (fun _ _ _ h => h) (Or.inl ⟨by rfl, ?_⟩) ?_ ?_
     rotate_left
     ·intro w'
      go_simp
      try with_reducible rfl
     rotate_left
     ·simp only [putAll, Act.put, sI, s0', s1']
      rfl
     refine take_ (i := 19) (N := some 102) (v := ?_) (a' := ?_) #[true, true, true, true, true, true, true, true, true, true, true, true, true, true, true, true, true, true, true, true, false, false, false, false, false, false, false, false, false] rfl rfl (by kernel_rfl) (fun _ _ _ h => h) (Or.inl ⟨by rfl, ?_⟩) hHeld ?_ ?_
     rotate_left
     ·rintro w' ⟨s0, s1, s2, s3, s4, s5, s6, s7, s8, s9, s10, s11, s12, s13, s14, s15, s16, s17, s18, s19, s20, s21, s22, s23, s24, s25⟩
      go_simp
      try with_reducible rfl
     rotate_left
     ·simp only [putAll, Act.put, sI, s0', s1']
      rfl
     refine pure_ (i := 20) (N := some 103) (v := ?_) (a' := ?_) #[true, true, true, true, true, true, true, true, true, true, true, true, true, true, true, true, true, true, true, true, true, false, false, false, false, false, false, false, false] rfl rfl (by kernel_rfl) (fun _ _ _ h => h) (Or.inl ⟨by rfl, ?_⟩) ?_ ?_
     rotate_left
     ·intro w'
      go_simp
      try with_reducible rfl
     rotate_left
     ·simp only [putAll, Act.put, sI, s0', s1']
      rfl
     refine take_ (i := 21) (N := some 104) (v := ?_) (a' := ?_) #[true, true, true, true, true, true, true, true, true, true, true, true, true, true, true, true, true, true, true, true, true, true, false, false, false, false, false, false, false] rfl rfl (by kernel_rfl) (fun _ _ _ h => h) (Or.inl ⟨by rfl, ?_⟩) hHeld ?_ ?_
     rotate_left
     ·rintro w' ⟨s0, s1, s2, s3, s4, s5, s6, s7, s8, s9, s10, s11, s12, s13, s14, s15, s16, s17, s18, s19, s20, s21, s22, s23, s24, s25⟩
      go_simp
      try with_reducible rfl
     rotate_left
     ·simp only [putAll, Act.put, sI, s0', s1']
      rfl
     refine pure_ (i := 22) (N := some 105) (v := ?_) (a' := ?_) #[true, true, true, true, true, true, true, true, true, true, true, true, true, true, true, true, true, true, true, true, true, true, true, false, false, false, false, false, false] rfl rfl (by kernel_rfl) (fun _ _ _ h => h) (Or.inl ⟨by rfl, ?_⟩) ?_ ?_
     rotate_left
     ·intro w'
      go_simp
      try with_reducible rfl
     rotate_left
     ·simp only [putAll, Act.put, sI, s0', s1']
      rfl
     refine pure_ (i := 23) (N := some 106) (v := ?_) (a' := ?_) #[true, true, true, true, true, true, true, true, true, true, true, true, true, true, true, true, true, true, true, true, true, true, true, true, false, false, false, false, false] rfl rfl (by kernel_rfl) (fun _ _ _ h => h) (Or.inl ⟨by rfl, ?_⟩) ?_ ?_
     rotate_left
     ·intro w'
      go_simp
      try with_reducible rfl
     rotate_left
     ·simp only [putAll, Act.put, sI, s0', s1']
      rfl
     refine pure_ (i := 24) (N := some 107) (v := ?_) (a' := ?_) #[true, true, true, true, true, true, true, true, true, true, true, true, true, true, true, true, true, true, true, true, true, true, true, true, true, false, false, false, false] rfl rfl (by kernel_rfl) (fun _ _ _ h => h) (Or.inl ⟨by rfl, ?_⟩) ?_ ?_
     rotate_left
     ·intro w'
      go_simp
      try with_reducible rfl
     rotate_left
     ·simp only [putAll, Act.put, sI, s0', s1']
      rfl
     refine take_ (i := 25) (N := some 108) (v := ?_) (a' := ?_) #[true, true, true, true, true, true, true, true, true, true, true, true, true, true, true, true, true, true, true, true, true, true, true, true, true, true, false, false, false] rfl rfl (by kernel_rfl) (fun _ _ _ h => h) (Or.inl ⟨by rfl, ?_⟩) hHeld ?_ ?_
     rotate_left
     ·rintro w' ⟨s0, s1, s2, s3, s4, s5, s6, s7, s8, s9, s10, s11, s12, s13, s14, s15, s16, s17, s18, s19, s20, s21, s22, s23, s24, s25⟩
      go_simp
      try with_reducible rfl
     rotate_left
     ·simp only [putAll, Act.put, sI, s0', s1']
      rfl
     refine one_ (i := 26) (N := some 109) #[true, true, true, true, true, true, true, true, true, true, true, true, true, true, true, true, true, true, true, true, true, true, true, true, true, true, true, false, false] rfl rfl (by kernel_rfl) (by decide) (fun K hK => ?_)
     refine step_goes Tryd.func30 (by kernel_rfl) rfl #[.agg #[.int .i64 y.f1.f0, .string y.f1.f1.f0, .int .i64 y.f1.f1.f1, .string y.f1.f2.f0, .int .i64 y.f1.f2.f1, .string y.f1.f3.f0, .int .i64 y.f1.f3.f1, .string y.f1.f4.f0, .int .i64 y.f1.f4.f1, .string y.f1.f5, .slice Bl y.f1.f6.length dl], .agg #[.int .i64 y.f1.f0, .string y.f1.f1.f0, .int .i64 y.f1.f1.f1, .string y.f1.f2.f0, .int .i64 y.f1.f2.f1, .string y.f1.f3.f0, .int .i64 y.f1.f3.f1, .string y.f1.f4.f0, .int .i64 y.f1.f4.f1, .string y.f1.f5, .slice Br y.f1.f6.length dr]] (by rfl) rfl rfl (by (try simp only [List.map_toArray, List.map_cons, List.map_nil]); rfl) ?_
     refine (HIH.out y.f1 Bl dl Br dr _ (Kd.C_below HKl.out (below_drew (bR wr.heap.size wr))) (Kd.C_below HKr.out (below_drew (bR wr.heap.size wr)))).mono ?_
     rintro e w2 ⟨rfl, hb⟩
     have HX3 := aS (fbelow (heap_drew HX1.out) hb)
     have HX4 := aS (fbelow (heap_drew HX2.out) hb)
     have HB2 := aS (show Below g1 w w2 by rw [← hg1]; exact below_step (below_drew1 (hg1.symm ▸ HB.out)) hb)
     refine hK.out _ _ (by obtain ⟨s0, s1, s2, s3, s4, s5, s6, s7, s8, s9, s10, s11, s12, s13, s14, s15, s16, s17, s18, s19, s20, s21, s22, s23, s24, s25⟩ := hHeld; exact ⟨(hb.cell (World.block_lt_of_cell? _ _ s0)).trans s0, (hb.cell (World.block_lt_of_cell? _ _ s1)).trans s1, (hb.cell (World.block_lt_of_cell? _ _ s2)).trans s2, (hb.cell (World.block_lt_of_cell? _ _ s3)).trans s3, (hb.cell (World.block_lt_of_cell? _ _ s4)).trans s4, (hb.cell (World.block_lt_of_cell? _ _ s5)).trans s5, (hb.cell (World.block_lt_of_cell? _ _ s6)).trans s6, (hb.cell (World.block_lt_of_cell? _ _ s7)).trans s7, (hb.cell (World.block_lt_of_cell? _ _ s8)).trans s8, (hb.cell (World.block_lt_of_cell? _ _ s9)).trans s9, (hb.cell (World.block_lt_of_cell? _ _ s10)).trans s10, (hb.cell (World.block_lt_of_cell? _ _ s11)).trans s11, (hb.cell (World.block_lt_of_cell? _ _ s12)).trans s12, (hb.cell (World.block_lt_of_cell? _ _ s13)).trans s13, (hb.cell (World.block_lt_of_cell? _ _ s14)).trans s14, (hb.cell (World.block_lt_of_cell? _ _ s15)).trans s15, (hb.cell (World.block_lt_of_cell? _ _ s16)).trans s16, (hb.cell (World.block_lt_of_cell? _ _ s17)).trans s17, (hb.cell (World.block_lt_of_cell? _ _ s18)).trans s18, (hb.cell (World.block_lt_of_cell? _ _ s19)).trans s19, (hb.cell (World.block_lt_of_cell? _ _ s20)).trans s20, (hb.cell (World.block_lt_of_cell? _ _ s21)).trans s21, (hb.cell (World.block_lt_of_cell? _ _ s22)).trans s22, (hb.cell (World.block_lt_of_cell? _ _ s23)).trans s23, (hb.cell (World.block_lt_of_cell? _ _ s24)).trans s24, (hb.cell (World.block_lt_of_cell? _ _ s25)).trans s25⟩) (fun hHeld => ?_)
     clear hK K
     refine norm_ (a' := ?_) ?_ ?_
     rotate_left
     ·show Act.put _ (some 109) _ = _
      simp only [putAll, Act.put, sI, s0', s1']
      rfl
     refine pure_ (i := 27) (N := some 110) (v := ?_) (a' := ?_) #[true, true, true, true, true, true, true, true, true, true, true, true, true, true, true, true, true, true, true, true, true, true, true, true, true, true, true, true, false] rfl rfl (by kernel_rfl) (fun _ _ _ h => h) (Or.inl ⟨by rfl, ?_⟩) ?_ ?_
     rotate_left
     ·intro w'
      go_simp
      try with_reducible rfl
     rotate_left
     ·simp only [putAll, Act.put, sI, s0', s1']
      rfl
     refine pure_ (i := 28) (N := some 111) (v := ?_) (a' := ?_) #[true, true, true, true, true, true, true, true, true, true, true, true, true, true, true, true, true, true, true, true, true, true, true, true, true, true, true, true, true] rfl rfl (by kernel_rfl) (fun _ _ _ h => h) (Or.inl ⟨by rfl, ?_⟩) ?_ ?_
     rotate_left
     ·intro w'
      go_simp
      try with_reducible rfl
     rotate_left
     ·simp only [putAll, Act.put, sI, s0', s1']
      rfl
     refine done_ (by kernel_rfl) ?_
     clear hb
     clear hHeld xl_0 xl_1 xl_2 xl_3 xl_4 xl_5 xl_6 xl_7 xl_8 xl_9 xl_10 xl_11 xr_0 xr_1 xr_2 xr_3 xr_4 xr_5 xr_6 xr_7 xr_8 xr_9 xr_10 xr_11
     try go_wp2
     go_roundg (gk - 1)
     case measure => have := HK.out; have := HLT.out; omega
     case rel => exact ⟨i + 1, by have h1 := HI0.out; have h2 := HLT.out; have h3 := HMB.out; rw [show wrap64 (i + 1) = i + 1 by unfold wrap64; omega], by have := HI0.out; omega, by have := HLT.out; omega, by have := HK.out; have := HLT.out; omega, HX3, HX4, HB2⟩
    ·have hd1 : decide (i < (x.f6.length : Int)) = false := decide_eq_false hlt
     have h10 := cH HX1.out 8
     have h20 := cH HX2.out 8
     have j9 := cH HX1.out 9
     have j10 := cH HX1.out 10
     have j11 := cH HX1.out 11
     have j12 := cH HX1.out 12
     have j13 := cH HX1.out 13
     have j14 := cH HX1.out 14
     have j15 := cH HX1.out 15
     have j16 := cH HX1.out 16
     have j17 := cH HX1.out 17
     have j18 := cH HX1.out 18
     have j19 := cH HX1.out 19
     have k9 := cH HX2.out 9
     have k10 := cH HX2.out 10
     have k11 := cH HX2.out 11
     have k12 := cH HX2.out 12
     have k13 := cH HX2.out 13
     have k14 := cH HX2.out 14
     have k15 := cH HX2.out 15
     have k16 := cH HX2.out 16
     have k17 := cH HX2.out 17
     have k18 := cH HX2.out 18
     have k19 := cH HX2.out 19
     go_wp2_with (go_at_call 30; (first | (with_reducible refine (HIH.out x.f7 Al2 cl2 Ar2 cr2 _ (Kd.C_below Hl2.out (by rw [hg1]; exact HB.out)) (Kd.C_below Hr2.out (by rw [hg1]; exact HB.out))).mono ?_; rintro e wn ⟨rfl, hb⟩; have HX3 := aS (fbelow HX1.out hb); have HX4 := aS (fbelow HX2.out hb); have HB2 := aS (show Below g1 w wn by rw [← hg1]; exact below_step (hg1.symm ▸ HB.out) hb); clear HX1 HX2 HB hb; have HX1 := HX3; have HX2 := HX4; have HB := HB2; clear HX3 HX4 HB2; have j20 := cH HX1.out 20; have j21 := cH HX1.out 21; have j22 := cH HX1.out 22; have j23 := cH HX1.out 23; have j24 := cH HX1.out 24; have j25 := cH HX1.out 25; have j26 := cH HX1.out 26; have j27 := cH HX1.out 27; have j28 := cH HX1.out 28; have j29 := cH HX1.out 29; have j30 := cH HX1.out 30; have k20 := cH HX2.out 20; have k21 := cH HX2.out 21; have k22 := cH HX2.out 22; have k23 := cH HX2.out 23; have k24 := cH HX2.out 24; have k25 := cH HX2.out 25; have k26 := cH HX2.out 26; have k27 := cH HX2.out 27; have k28 := cH HX2.out 28; have k29 := cH HX2.out 29; have k30 := cH HX2.out 30) | (with_reducible refine (HIH.out x.f8 Al3 cl3 Ar3 cr3 _ (Kd.C_below Hl3.out (by rw [hg1]; exact HB.out)) (Kd.C_below Hr3.out (by rw [hg1]; exact HB.out))).mono ?_; rintro e wn ⟨rfl, hb⟩; have HX3 := aS (fbelow HX1.out hb); have HX4 := aS (fbelow HX2.out hb); have HB2 := aS (show Below g1 w wn by rw [← hg1]; exact below_step (hg1.symm ▸ HB.out) hb); clear HX1 HX2 HB hb; have HX1 := HX3; have HX2 := HX4; have HB := HB2; clear HX3 HX4 HB2; have j31 := cH HX1.out 31; have j32 := cH HX1.out 32; have j33 := cH HX1.out 33; have j34 := cH HX1.out 34; have j35 := cH HX1.out 35; have j36 := cH HX1.out 36; have j37 := cH HX1.out 37; have j38 := cH HX1.out 38; have j39 := cH HX1.out 39; have j40 := cH HX1.out 40; have j41 := cH HX1.out 41; have k31 := cH HX2.out 31; have k32 := cH HX2.out 32; have k33 := cH HX2.out 33; have k34 := cH HX2.out 34; have k35 := cH HX2.out 35; have k36 := cH HX2.out 36; have k37 := cH HX2.out 37; have k38 := cH HX2.out 38; have k39 := cH HX2.out 39; have k40 := cH HX2.out 40; have k41 := cH HX2.out 41) | (with_reducible refine (HIH.out x.f9 Al4 cl4 Ar4 cr4 _ (Kd.C_below Hl4.out (by rw [hg1]; exact HB.out)) (Kd.C_below Hr4.out (by rw [hg1]; exact HB.out))).mono ?_; rintro e wn ⟨rfl, hb⟩; have HX3 := aS (fbelow HX1.out hb); have HX4 := aS (fbelow HX2.out hb); have HB2 := aS (show Below g1 w wn by rw [← hg1]; exact below_step (hg1.symm ▸ HB.out) hb); clear HX1 HX2 HB hb; have HX1 := HX3; have HX2 := HX4; have HB := HB2; clear HX3 HX4 HB2)))
     go_ret
     exact ⟨rfl, hg1.symm ▸ HB.out⟩
end Go.Proofs.YtenogedclignmaaDoor.Q
