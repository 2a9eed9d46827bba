/-
  HELPER.
-/
import Derived.Test.YtenogedclignmaaDoorPlK23
import Derived.Test.YtenogedclignmaaDoorPlKA
import Derived.Test.YtenogedclignmaaDoorJoWords
import Derived.Test.YtenogedclignmaaDoorPlK22
import Derived.Test.YtenogedclignmaaDoorJoK11
set_option linter.unusedVariables false
set_option linter.unusedSimpArgs false
namespace Go.Proofs.YtenogedclignmaaDoor.Q
open Go.RowKit Go.Maps Go.WideMaps Go.Proofs.YtenogedclignmaaDoorW.PrintWords Go.Proofs.YtenogedclignmaaDoorW.PrintLast Go.Proofs.YtenogedclignmaaDoorW.PrintMore
set_option maxHeartbeats 8000000 in
set_option maxRecDepth 100000 in
theorem same_design (ms : List S47) (Al : Option Addr) (cl : Nat) (Ar : Option Addr) (cr : Nat) (w : World) (hl : Kd.C k47 w Al ms.length ms) (hr : Kd.C k47 w Ar ms.length ms) :
  Calls Tryd.prog 13 #[.agg #[.slice Al ms.length cl], .agg #[.slice Ar ms.length cr]] w fun e w' => e = .returned (.bool true) ∧ Below w.heap.size w w' := by
 have hb1 := below_alloc (bR w.heap.size w) (.cells #[.slice Al ms.length cl] 26)
 have hx1 := (MapKept.heap_alloc w (.cells #[.slice Al ms.length cl] 26)).1
 have hz1 : (w.alloc (.cells #[.slice Al ms.length cl] 26)).heap.size = w.heap.size + 1 := by show (w.heap.push _).size = _; simp
 have hb2 := below_alloc hb1 (.cells #[.slice Ar ms.length cr] 26)
 have hx2 := (MapKept.heap_alloc (w.alloc (.cells #[.slice Al ms.length cl] 26)) (.cells #[.slice Ar ms.length cr] 26)).1
 rw [hz1] at hx2
 have hx12 := fbelow hx1 (below_alloc (bR (w.alloc (.cells #[.slice Al ms.length cl] 26)).heap.size (w.alloc (.cells #[.slice Al ms.length cl] 26))) (.cells #[.slice Ar ms.length cr] 26))
 have HB := aS hb2
 have HX1 := aS hx12
 have HX2 := aS hx2
 have HM := aS hl.2.1
 have Hl := aS hl
 have Hr := aS hr
 clear hl hr
 clear hb1 hx1 hz1 hb2 hx2 hx12
 go_enter Tryd.func13, Tryd.ntmps13
 go_upto_region 1 with (fail)
 generalize (w.alloc (.cells #[.slice Al ms.length cl] 26)).alloc (.cells #[.slice Ar ms.length cr] 26) = w1 at *
 generalize hg1 : w.heap.size = g1 at *
 obtain ⟨g2, hg2⟩ : ∃ g2, g1 + 1 = g2 := ⟨_, rfl⟩
 rw [hg2] at HX2
 rw [hg2]
 have j0 := cH HX1.out 0
 have k0 := cH HX2.out 0
 go_upto_region 3 with (fail)
 clear j0 k0
 go_wp2
 try simp only [Act.put, List.setIfInBounds_toArray, List.set_cons_succ, List.set_cons_zero]
 go_loopg [5] ms.length (fun kq v5 w' => ∃ i : Int, v5 = .int .i64 i ∧ 0 ≤ i ∧ i ≤ (ms.length : Int) ∧ (kq : Int) = ms.length - i ∧ Aside0 (w'.heap[g1]? = some (.cells #[.slice Al ms.length cl] 26)) ∧ Aside0 (w'.heap[g2]? = some (.cells #[.slice Ar ms.length cr] 26)) ∧ Aside0 (Below g1 w w'))
 case atStart => exact ⟨0, rfl, by omega, by omega, by omega, HX1, HX2, HB⟩
 case round =>
  clear HX1 HX2 HB
  obtain ⟨i, rfl, hi0, hi, hk, HX1, HX2, HB⟩ := hrel
  by_cases hlt : i < (ms.length : Int)
  ·have HK := aS hk
   have HLT := aS hlt
   have hd1 : decide (i < (ms.length : Int)) = true := decide_eq_true hlt
   clear hk
   have h10 := cH HX1.out 0
   have h20 := cH HX2.out 0
   obtain ⟨adl, Bl1, dl1, Bl2, dl2, Bl3, dl3, el, xl_0, xl_1, xl_2, xl_3, hll1, hcl1, hll2, hcl2, hll3, hcl3⟩ := at_T47 (Kd.C_below Hl.out (hg1 ▸ HB.out)) i hi0 hlt
   subst el
   have HKl1 := aS hcl1
   clear hcl1
   have HKl2 := aS hcl2
   clear hcl2
   have HKl3 := aS hcl3
   clear hcl3
   obtain ⟨adr, Br1, dr1, Br2, dr2, Br3, dr3, er, xr_0, xr_1, xr_2, xr_3, hlr1, hcr1, hlr2, hcr2, hlr3, hcr3⟩ := at_T47 (Kd.C_below Hr.out (hg1 ▸ HB.out)) i hi0 hlt
   subst er
   have HKr1 := aS hcr1
   clear hcr1
   have HKr2 := aS hcr2
   clear hcr2
   have HKr3 := aS hcr3
   clear hcr3
   generalize rd_T47 ms i = y at *
   have HI0 := aS hi0
   replace hi0 := eq_true hi0
   replace hlt := eq_true hlt
   go_upto_region 6 with (fail)
   refine start_ (n := 12) (S := fun w' => w'.cell? ⟨g1, 0, none⟩ = some (.slice (some adl) ms.length cl) ∧ w'.cell? ⟨g2, 0, none⟩ = some (.slice (some adr) ms.length cr) ∧ w'.cell? (adl.add (i.toNat * 4)) = some (.string y.f0) ∧ w'.cell? ⟨(adl.add (i.toNat * 4)).block, (adl.add (i.toNat * 4)).off + 1, none⟩ = some (.slice Bl1 y.f1.length dl1) ∧ w'.cell? ⟨(adl.add (i.toNat * 4)).block, (adl.add (i.toNat * 4)).off + 2, none⟩ = some (.slice Bl2 y.f2.length dl2) ∧ w'.cell? ⟨(adl.add (i.toNat * 4)).block, (adl.add (i.toNat * 4)).off + 3, none⟩ = some (.slice Bl3 y.f3.length dl3) ∧ w'.cell? (adr.add (i.toNat * 4)) = some (.string y.f0) ∧ w'.cell? ⟨(adr.add (i.toNat * 4)).block, (adr.add (i.toNat * 4)).off + 1, none⟩ = some (.slice Br1 y.f1.length dr1) ∧ w'.cell? ⟨(adr.add (i.toNat * 4)).block, (adr.add (i.toNat * 4)).off + 2, none⟩ = some (.slice Br2 y.f2.length dr2) ∧ w'.cell? ⟨(adr.add (i.toNat * 4)).block, (adr.add (i.toNat * 4)).off + 3, none⟩ = some (.slice Br3 y.f3.length dr3)) (ds := []) #[false, false, false, false, false, false, false, false, false, false, false, false] (by kernel_rfl) rfl rfl ⟨h10, h20, xl_0, xl_1, xl_2, xl_3, xr_0, xr_1, xr_2, xr_3⟩ (fun hHeld => ?_)
   refine pure_ (i := 0) (N := some 20) (v := ?_) (a' := ?_) #[true, false, false, false, false, false, false, false, false, false, false, false] rfl rfl (by kernel_rfl) (fun _ _ _ h => h) (Or.inl ⟨by rfl, ?_⟩) ?_ ?_
   rotate_left
   ·intro w'
    go_simp
    try with_reducible rfl
   rotate_left
   ·simp only [putAll, Act.put, sI, s0', s1']
    rfl
   refine pure_ (i := 2) (N := some 22) (v := ?_) (a' := ?_) #[true, false, true, false, false, false, false, false, false, false, false, false] rfl rfl (by kernel_rfl) (fun _ _ _ h => h) (Or.inl ⟨by rfl, ?_⟩) ?_ ?_
   rotate_left
   ·intro w'
    go_simp
    try with_reducible rfl
   rotate_left
   ·simp only [putAll, Act.put, sI, s0', s1']
    rfl
   refine pure_ (i := 5) (N := some 25) (v := ?_) (a' := ?_) #[true, false, true, false, false, true, false, false, false, false, false, false] rfl rfl (by kernel_rfl) (fun _ _ _ h => h) (Or.inl ⟨by rfl, ?_⟩) ?_ ?_
   rotate_left
   ·intro w'
    go_simp
    try with_reducible rfl
   rotate_left
   ·simp only [putAll, Act.put, sI, s0', s1']
    rfl
   refine pure_ (i := 7) (N := some 27) (v := ?_) (a' := ?_) #[true, false, true, false, false, true, false, true, false, false, false, false] rfl rfl (by kernel_rfl) (fun _ _ _ h => h) (Or.inl ⟨by rfl, ?_⟩) ?_ ?_
   rotate_left
   ·intro w'
    go_simp
    try with_reducible rfl
   rotate_left
   ·simp only [putAll, Act.put, sI, s0', s1']
    rfl
   refine take_ (i := 1) (N := some 21) (v := ?_) (a' := ?_) #[true, true, true, false, false, true, false, true, false, false, false, false] rfl rfl (by kernel_rfl) (fun _ _ _ h => h) (Or.inl ⟨by rfl, ?_⟩) hHeld ?_ ?_
   rotate_left
   ·rintro w' ⟨s0, s1, s2, s3, s4, s5, s6, s7, s8, s9⟩
    go_simp
    try with_reducible rfl
   rotate_left
   ·simp only [putAll, Act.put, sI, s0', s1']
    rfl
   refine pure_ (i := 3) (N := some 23) (v := ?_) (a' := ?_) #[true, true, true, true, false, true, false, true, false, false, false, false] rfl rfl (by kernel_rfl) (fun _ _ _ h => h) (Or.inl ⟨by rfl, ?_⟩) ?_ ?_
   rotate_left
   ·intro w'
    go_simp
    try with_reducible rfl
   rotate_left
   ·simp only [putAll, Act.put, sI, s0', s1']
    rfl
   refine take_ (i := 4) (N := some 24) (v := ?_) (a' := ?_) #[true, true, true, true, true, true, false, true, false, false, false, false] rfl rfl (by kernel_rfl) (fun _ _ _ h => h) (Or.inl ⟨by rfl, ?_⟩) hHeld ?_ ?_
   rotate_left
   ·rintro w' ⟨s0, s1, s2, s3, s4, s5, s6, s7, s8, s9⟩
    go_simp
    try with_reducible rfl
   rotate_left
   ·simp only [putAll, Act.put, sI, s0', s1']
    rfl
   refine take_ (i := 6) (N := some 26) (v := ?_) (a' := ?_) #[true, true, true, true, true, true, true, true, false, false, false, false] rfl rfl (by kernel_rfl) (fun _ _ _ h => h) (Or.inl ⟨by rfl, ?_⟩) hHeld ?_ ?_
   rotate_left
   ·rintro w' ⟨s0, s1, s2, s3, s4, s5, s6, s7, s8, s9⟩
    go_simp
    try with_reducible rfl
   rotate_left
   ·simp only [putAll, Act.put, sI, s0', s1']
    rfl
   refine pure_ (i := 8) (N := some 28) (v := ?_) (a' := ?_) #[true, true, true, true, true, true, true, true, true, false, false, false] rfl rfl (by kernel_rfl) (fun _ _ _ h => h) (Or.inl ⟨by rfl, ?_⟩) ?_ ?_
   rotate_left
   ·intro w'
    go_simp
    try with_reducible rfl
   rotate_left
   ·simp only [putAll, Act.put, sI, s0', s1']
    rfl
   refine take_ (i := 9) (N := some 29) (v := ?_) (a' := ?_) #[true, true, true, true, true, true, true, true, true, true, false, false] rfl rfl (by kernel_rfl) (fun _ _ _ h => h) (Or.inl ⟨by rfl, ?_⟩) hHeld ?_ ?_
   rotate_left
   ·rintro w' ⟨s0, s1, s2, s3, s4, s5, s6, s7, s8, s9⟩
    go_simp
    try with_reducible rfl
   rotate_left
   ·simp only [putAll, Act.put, sI, s0', s1']
    rfl
   refine one_ (i := 10) (N := some 30) #[true, true, true, true, true, true, true, true, true, true, true, false] rfl rfl (by kernel_rfl) (by decide) (fun K hK => ?_)
   refine step_goes Tryd.func16 (by kernel_rfl) rfl #[.agg #[.string y.f0, .slice Bl1 y.f1.length dl1, .slice Bl2 y.f2.length dl2, .slice Bl3 y.f3.length dl3], .agg #[.string y.f0, .slice Br1 y.f1.length dr1, .slice Br2 y.f2.length dr2, .slice Br3 y.f3.length dr3]] (by rfl) rfl rfl (by (try simp only [List.map_toArray, List.map_cons, List.map_nil]); rfl) ?_
   refine (same_module y Bl1 dl1 Bl2 dl2 Bl3 dl3 Br1 dr1 Br2 dr2 Br3 dr3 _ (Kd.C_below HKl1.out (below_drew (bR wr.heap.size wr))) (Kd.C_below HKl2.out (below_drew (bR wr.heap.size wr))) (Kd.C_below HKl3.out (below_drew (bR wr.heap.size wr))) (Kd.C_below HKr1.out (below_drew (bR wr.heap.size wr))) (Kd.C_below HKr2.out (below_drew (bR wr.heap.size wr))) (Kd.C_below HKr3.out (below_drew (bR wr.heap.size wr)))).mono ?_
   rintro e w2 ⟨rfl, hb⟩
   have HX3 := aS (fbelow (heap_drew HX1.out) hb)
   have HX4 := aS (fbelow (heap_drew HX2.out) hb)
   have HB2 := aS (show Below g1 w w2 by rw [← hg1]; exact below_step (below_drew1 (hg1.symm ▸ HB.out)) hb)
   refine hK.out _ _ (by obtain ⟨s0, s1, s2, s3, s4, s5, s6, s7, s8, s9⟩ := hHeld; exact ⟨(hb.cell (World.block_lt_of_cell? _ _ s0)).trans s0, (hb.cell (World.block_lt_of_cell? _ _ s1)).trans s1, (hb.cell (World.block_lt_of_cell? _ _ s2)).trans s2, (hb.cell (World.block_lt_of_cell? _ _ s3)).trans s3, (hb.cell (World.block_lt_of_cell? _ _ s4)).trans s4, (hb.cell (World.block_lt_of_cell? _ _ s5)).trans s5, (hb.cell (World.block_lt_of_cell? _ _ s6)).trans s6, (hb.cell (World.block_lt_of_cell? _ _ s7)).trans s7, (hb.cell (World.block_lt_of_cell? _ _ s8)).trans s8, (hb.cell (World.block_lt_of_cell? _ _ s9)).trans s9⟩) (fun hHeld => ?_)
   clear hK K
   refine norm_ (a' := ?_) ?_ ?_
   rotate_left
   ·show Act.put _ (some 30) _ = _
    simp only [putAll, Act.put, sI, s0', s1']
    rfl
   refine pure_ (i := 11) (N := some 31) (v := ?_) (a' := ?_) #[true, true, true, true, true, true, true, true, true, true, true, true] rfl rfl (by kernel_rfl) (fun _ _ _ h => h) (Or.inl ⟨by rfl, ?_⟩) ?_ ?_
   rotate_left
   ·intro w'
    go_simp
    try with_reducible rfl
   rotate_left
   ·simp only [putAll, Act.put, sI, s0', s1']
    rfl
   refine done_ (by kernel_rfl) ?_
   clear hb
   clear hHeld xl_0 xl_1 xl_2 xl_3 xr_0 xr_1 xr_2 xr_3
   try go_wp2
   go_roundg (gk - 1)
   case measure => have := HK.out; have := HLT.out; omega
   case rel => exact ⟨i + 1, by have h1 := HI0.out; have h2 := HLT.out; have h3 := HM.out; rw [show wrap64 (i + 1) = i + 1 by unfold wrap64; omega], by have := HI0.out; omega, by have := HLT.out; omega, by have := HK.out; have := HLT.out; omega, HX3, HX4, HB2⟩
  ·have hd1 : decide (i < (ms.length : Int)) = false := decide_eq_false hlt
   have h10 := cH HX1.out 0
   go_wp2
   go_ret
   exact ⟨rfl, hg1.symm ▸ HB.out⟩
end Go.Proofs.YtenogedclignmaaDoor.Q
