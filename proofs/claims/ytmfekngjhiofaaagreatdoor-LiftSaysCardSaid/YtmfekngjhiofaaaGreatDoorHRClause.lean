/-
  HAND: the document's lit and Clause tell what lift.Clause tells.
-/
import Derived.Test.YtmfekngjhiofaaaGreatDoorQx0
import Derived.Test.YtmfekngjhiofaaaGreatDoorHClause
import Derived.Test.YtmfekngjhiofaaaGreatDoorHRGoes
import Derived.Test.YtmfekngjhiofaaaGreatDoorHRTrace
set_option linter.unusedVariables false
set_option linter.unusedSimpArgs false
namespace Go.Proofs.YtmfekngjhiofaaaGreatDoor.Q
open Go.RowKit Go.Proofs.YtmfekngjhiofaaaGreatDoorW.PrintWords Go.Proofs.YtmfekngjhiofaaaGreatDoorW.PrintLast Go.Proofs.YtmfekngjhiofaaaGreatDoorW.PrintMore
theorem mag_neg (x : Int) (h0 : -9223372036854775808 ≤ x) (h : x < 0) : wrap64 (-x) = magI x := by unfold magI mx wrap64; split <;> omega
theorem mag_pos (x : Int) (h0 : x ≤ 9223372036854775807) (h : ¬ x < 0) : x = magI x := by unfold magI mx wrap64; split <;> omega
def proofmarkref27_lit.f (l0_0 : List (S125)) (l0_1 : List (S72)) (l0_2 : List (S114)) (l0_3 : List (S105)) (l0_4 : List (S72)) (a1_0 : Int) (l1_1 : List (S199)) (l1_2 : List (S200)) (l1_3 : List (S94)) (l1_4 : List (S202)) (a2 : Int) : Option (ByteArray × Bool) := if (goesB l0_2.length l1_3 && cellsFit l0_2 && l1_3.all (fun x => (Lit.int .i64 x.f4).wf) && (Lit.int .i64 a2).wf) = true then some (if litOk l1_3.length a2 = true then (wordB l0_2 l1_3 a2, true) else (⟨#[]⟩, false)) else none
theorem three_boxes (w : World) (o0 o1 o2 : Obj) : (((w.alloc o0).alloc o1).alloc o2).heap[w.heap.size]? = some o0 ∧ (((w.alloc o0).alloc o1).alloc o2).heap[w.heap.size + 1]? = some o1 ∧ (((w.alloc o0).alloc o1).alloc o2).heap[w.heap.size + 1 + 1]? = some o2 := by
  have h := two_boxes w o0 o1
  have e : ((w.alloc o0).alloc o1).heap.size = w.heap.size + 1 + 1 := by show ((w.heap.push o0).push o1).size = _; simp
  have h2 := (MapKept.heap_alloc ((w.alloc o0).alloc o1) o2).1
  rw [e] at h2
  exact ⟨(Lib.alloc_old _ o2 w.heap.size (by omega)).trans h.1, (Lib.alloc_old _ o2 (w.heap.size + 1) (by omega)).trans h.2, h2⟩
set_option maxHeartbeats 8000000 in
set_option maxRecDepth 100000 in
theorem proofmarkref27_lit.calls (A0_0 : Option Addr) (c0_0 : Nat) (l0_0 : List (S125)) (A0_1 : Option Addr) (c0_1 : Nat) (l0_1 : List (S72)) (A0_2 : Option Addr) (c0_2 : Nat) (l0_2 : List (S114)) (A0_3 : Option Addr) (c0_3 : Nat) (l0_3 : List (S105)) (A0_4 : Option Addr) (c0_4 : Nat) (l0_4 : List (S72)) (a1_0 : Int) (A1_1 : Option Addr) (c1_1 : Nat) (l1_1 : List (S199)) (A1_2 : Option Addr) (c1_2 : Nat) (l1_2 : List (S200)) (A1_3 : Option Addr) (c1_3 : Nat) (l1_3 : List (S94)) (A1_4 : Option Addr) (c1_4 : Nat) (l1_4 : List (S202)) (a2 : Int) (r1 : ByteArray) (r2 : Bool) (w : World) (hr0_0 : Kd.C k125 w A0_0 l0_0.length l0_0) (hc0_0 : l0_0.length ≤ c0_0) (hr0_1 : Kd.C k72 w A0_1 l0_1.length l0_1) (hc0_1 : l0_1.length ≤ c0_1) (hr0_2 : Kd.C k114 w A0_2 l0_2.length l0_2) (hc0_2 : l0_2.length ≤ c0_2) (hr0_3 : Kd.C k105 w A0_3 l0_3.length l0_3) (hc0_3 : l0_3.length ≤ c0_3) (hr0_4 : Kd.C k72 w A0_4 l0_4.length l0_4) (hc0_4 : l0_4.length ≤ c0_4) (hr1_1 : Kd.C k199 w A1_1 l1_1.length l1_1) (hc1_1 : l1_1.length ≤ c1_1) (hr1_2 : Kd.C k200 w A1_2 l1_2.length l1_2) (hc1_2 : l1_2.length ≤ c1_2) (hr1_3 : Kd.C k94 w A1_3 l1_3.length l1_3) (hc1_3 : l1_3.length ≤ c1_3) (hr1_4 : Kd.C k202 w A1_4 l1_4.length l1_4) (hc1_4 : l1_4.length ≤ c1_4) (h : proofmarkref27_lit.f l0_0 l0_1 l0_2 l0_3 l0_4 a1_0 l1_1 l1_2 l1_3 l1_4 a2 = some (r1, r2)) :
    Calls Tryz.prog 49 #[.agg #[.slice A0_0 l0_0.length c0_0, .slice A0_1 l0_1.length c0_1, .slice A0_2 l0_2.length c0_2, .slice A0_3 l0_3.length c0_3, .slice A0_4 l0_4.length c0_4], .agg #[.int .i64 a1_0, .slice A1_1 l1_1.length c1_1, .slice A1_2 l1_2.length c1_2, .slice A1_3 l1_3.length c1_3, .slice A1_4 l1_4.length c1_4], .int .i64 a2] w fun e w' => e = .returned (.tuple #[.string r1, .bool r2]) ∧ Below w.heap.size w w' := by
  unfold proofmarkref27_lit.f at h
  by_cases hb : (goesB l0_2.length l1_3 && cellsFit l0_2 && l1_3.all (fun x => (Lit.int .i64 x.f4).wf) && (Lit.int .i64 a2).wf) = true
  · rw [if_pos hb] at h
    simp only [Bool.and_eq_true] at hb
    obtain ⟨⟨⟨g0, g1⟩, g2⟩, g3⟩ := hb
    have h3 : IntKind.i64.min ≤ a2 ∧ a2 ≤ 9223372036854775807 := by simpa [Lit.wf] using g3
    rw [show IntKind.i64.min = -9223372036854775808 by decide] at h3
    have HF := Aside0.mk (Option.some.inj h)
    have H2 := Aside0.mk hr0_2
    have K3 := Aside0.mk hr1_3
    have HGM := Aside0.mk (goesFrom_mem _ _ _ _ g0)
    have HCN := Aside0.mk (cellsFit_out g1)
    have HLW := Aside0.mk g2
    have hl3 : l1_3.length ≤ 9223372036854775807 := hr1_3.2.1
    clear h hr0_0 hc0_0 hr0_1 hc0_1 hr0_2 hc0_2 hr0_3 hc0_3 hr0_4 hc0_4 hr1_1 hc1_1 hr1_2 hc1_2 hr1_3 hc1_3 hr1_4 hc1_4
    clear g0 g1 g2 g3
    have HO := Aside0.mk (two_boxes w (.cells #[.slice A0_0 l0_0.length c0_0, .slice A0_1 l0_1.length c0_1, .slice A0_2 l0_2.length c0_2, .slice A0_3 l0_3.length c0_3, .slice A0_4 l0_4.length c0_4] 27) (.cells #[.int .i64 a1_0, .slice A1_1 l1_1.length c1_1, .slice A1_2 l1_2.length c1_2, .slice A1_3 l1_3.length c1_3, .slice A1_4 l1_4.length c1_4] 35))
    have HB := Aside0.mk (below_alloc (below_alloc (Below.refl w.heap.size w) (.cells #[.slice A0_0 l0_0.length c0_0, .slice A0_1 l0_1.length c0_1, .slice A0_2 l0_2.length c0_2, .slice A0_3 l0_3.length c0_3, .slice A0_4 l0_4.length c0_4] 27)) (.cells #[.int .i64 a1_0, .slice A1_1 l1_1.length c1_1, .slice A1_2 l1_2.length c1_2, .slice A1_3 l1_3.length c1_3, .slice A1_4 l1_4.length c1_4] 35))
    obtain ⟨mg, hmg⟩ : ∃ mg : Int, magI a2 = mg := ⟨_, rfl⟩
    have HMG := Aside0.mk hmg
    by_cases hok : litOk l1_3.length a2 = true
    · have HRE := Aside0.mk (show wordB l0_2 l1_3 a2 = r1 ∧ true = r2 by have := HF.out; rw [if_pos hok] at this; exact ⟨congrArg Prod.fst this, congrArg Prod.snd this⟩)
      have hmem := rdL_mem hok
      simp only [litOk, decide_eq_true_eq, hmg] at hok
      obtain ⟨m, rfl⟩ : ∃ m : Nat, mg = (m : Int) + 1 := ⟨(mg - 1).toNat, by omega⟩
      have hm0 : 0 ≤ (m : Int) := by omega
      have hm1 : (m : Int) < l1_3.length := by omega
      obtain ⟨adl, el, z0, z1, z2, z3, z4⟩ := at_T94 K3.out (m : Int) hm0 hm1
      cases el
      have hto : (m : Int).toNat = m := by omega
      simp only [hto] at z0 z1 z2 z3 z4
      clear hto
      have hrm : rd_T94 l1_3 (magI a2 - 1) = rd_T94 l1_3 (m : Int) := by rw [HMG.out]; congr 1; omega
      rw [hrm] at hmem
      have HRM := Aside0.mk hrm
      clear hrm
      generalize rd_T94 l1_3 (m : Int) = y at z0 z1 z2 z3 z4 HRM hmem
      have hgm := HGM.out y hmem
      have hwy := List.all_eq_true.1 HLW.out y hmem
      obtain ⟨adc, ec, x0, _, _, _⟩ := at_T114 H2.out y.f3 hgm.2.1 hgm.2.2
      cases ec
      obtain ⟨j, hj⟩ : ∃ j : Nat, y.f3 = j := ⟨y.f3.toNat, by omega⟩
      have hwy2 : -9223372036854775808 ≤ y.f4 ∧ y.f4 ≤ 9223372036854775807 := by
        have h1 : IntKind.i64.min ≤ y.f4 ∧ y.f4 ≤ 9223372036854775807 := by simpa [Lit.wf] using hwy
        rwa [show IntKind.i64.min = -9223372036854775808 by decide] at h1
      have HNU := Aside0.mk (num27_f y.f4 hgm.1 hwy2.2)
      have s1 := numB_size y.f4 hwy
      have hnm : (rd_T114 l0_2 y.f3).f0.size ≤ 1000 := by
        have hq : y.f3.toNat < l0_2.length := by omega
        unfold rd_T114
        rw [List.getD_eq_getElem?_getD, List.getElem?_eq_getElem hq]
        exact HCN.out.2 _ (List.getElem_mem hq)
      have HWB := Aside0.mk (show wordB l0_2 l1_3 a2 = if a2 < 0 then (⟨#[126]⟩ : ByteArray) ++ litB l0_2 y.f3 y.f4 else litB l0_2 y.f3 y.f4 by unfold wordB; rw [HRM.out])
      unfold litB at HWB
      have hj1 : (j : Int) < l0_2.length := by omega
      generalize (rd_T114 l0_2 y.f3).f0 = nm at x0 hnm HWB
      have hto : y.f3.toNat = j := by omega
      simp only [hto] at x0
      rw [hj] at z3
      clear hto hgm hwy hwy2 hmem
      have zz : (9223372036854775807 < nm.size) = False := eq_false (by omega)
      have zz1 : (9223372036854775807 < nm.size + 1) = False := eq_false (by omega)
      have zz2 : (9223372036854775807 < nm.size + 1 + (numB y.f4).size) = False := eq_false (by omega)
      have zz3 : (9223372036854775807 < nm.size + 1 + (numB y.f4).size + 1) = False := eq_false (by omega)
      have zy : (9223372036854775807 < 1 + nm.size) = False := eq_false (by omega)
      have zy1 : (9223372036854775807 < 1 + nm.size + 1) = False := eq_false (by omega)
      have zy2 : (9223372036854775807 < 1 + nm.size + 1 + (numB y.f4).size) = False := eq_false (by omega)
      have zy3 : (9223372036854775807 < 1 + nm.size + 1 + (numB y.f4).size + 1) = False := eq_false (by omega)
      have hwm : IntKind.i64.wrap ((m : Int) + 1 - 1) = (m : Int) := by rw [IntKind.wrap_i64]; omega
      have hwm2 : wrap64 ((m : Int) + 1 - 1) = (m : Int) := by unfold wrap64; omega
      have hwm3 : IntKind.i64.wrap (m : Int) = (m : Int) := by rw [IntKind.wrap_i64]; omega
      have hwm4 : wrap64 (m : Int) = (m : Int) := by unfold wrap64; omega
      have hwm5 : (m : Int) + 1 - 1 = (m : Int) := by omega
      clear hnm s1
      have HBB := Aside0.mk (below_alloc HB.out (.cells #[.int .i64 y.f0, .int .i64 y.f1, .bool y.f2, .int .i64 j, .int .i64 y.f4] 94))
      have HO3 := Aside0.mk (three_boxes w (.cells #[.slice A0_0 l0_0.length c0_0, .slice A0_1 l0_1.length c0_1, .slice (some adc) l0_2.length c0_2, .slice A0_3 l0_3.length c0_3, .slice A0_4 l0_4.length c0_4] 27) (.cells #[.int .i64 a1_0, .slice A1_1 l1_1.length c1_1, .slice A1_2 l1_2.length c1_2, .slice (some adl) l1_3.length c1_3, .slice A1_4 l1_4.length c1_4] 35) (.cells #[.int .i64 y.f0, .int .i64 y.f1, .bool y.f2, .int .i64 j, .int .i64 y.f4] 94))
      have TS := Aside0.mk (show ∀ w' : World, Below (((w.alloc (.cells #[.slice A0_0 l0_0.length c0_0, .slice A0_1 l0_1.length c0_1, .slice (some adc) l0_2.length c0_2, .slice A0_3 l0_3.length c0_3, .slice A0_4 l0_4.length c0_4] 27)).alloc (.cells #[.int .i64 a1_0, .slice A1_1 l1_1.length c1_1, .slice A1_2 l1_2.length c1_2, .slice (some adl) l1_3.length c1_3, .slice A1_4 l1_4.length c1_4] 35)).alloc (.cells #[.int .i64 y.f0, .int .i64 y.f1, .bool y.f2, .int .i64 j, .int .i64 y.f4] 94)).heap.size (((w.alloc (.cells #[.slice A0_0 l0_0.length c0_0, .slice A0_1 l0_1.length c0_1, .slice (some adc) l0_2.length c0_2, .slice A0_3 l0_3.length c0_3, .slice A0_4 l0_4.length c0_4] 27)).alloc (.cells #[.int .i64 a1_0, .slice A1_1 l1_1.length c1_1, .slice A1_2 l1_2.length c1_2, .slice (some adl) l1_3.length c1_3, .slice A1_4 l1_4.length c1_4] 35)).alloc (.cells #[.int .i64 y.f0, .int .i64 y.f1, .bool y.f2, .int .i64 j, .int .i64 y.f4] 94)) w' → (w'.cell? ⟨w.heap.size, 2, none⟩ = some (.slice (some adc) l0_2.length c0_2) ∧ w'.cell? ⟨w.heap.size + 1 + 1, 3, none⟩ = some (.int .i64 j) ∧ w'.cell? ⟨w.heap.size + 1 + 1, 4, none⟩ = some (.int .i64 y.f4) ∧ w'.cell? (adc.add (j * 4)) = some (.string nm)) from fun w' q =>
        ⟨Lib.cell_of_heap ((q.block _ (Array.getElem?_eq_some_iff.1 HO3.out.1).1).trans HO3.out.1) 2, Lib.cell_of_heap ((q.block _ (Array.getElem?_eq_some_iff.1 HO3.out.2.2).1).trans HO3.out.2.2) 3, Lib.cell_of_heap ((q.block _ (Array.getElem?_eq_some_iff.1 HO3.out.2.2).1).trans HO3.out.2.2) 4, pw_cell_below (below_step HBB.out q) x0⟩)
      clear x0
      have z0 := pw_cell_below HB.out z0
      have z1 := pw_cell_below HB.out z1
      have z2 := pw_cell_below HB.out z2
      have z3 := pw_cell_below HB.out z3
      have z4 := pw_cell_below HB.out z4
      by_cases hx : a2 < 0
      · have hw1 : wrap64 (-a2) = (m : Int) + 1 := by rw [mag_neg a2 h3.1 hx, HMG.out]
        have hw2 : IntKind.i64.wrap (-a2) = (m : Int) + 1 := by rw [IntKind.wrap_i64]; unfold wrap64 at hw1; omega
        have HRX := Aside0.mk (show r1 = ((((⟨#[126]⟩ : ByteArray) ++ nm) ++ (⟨#[91]⟩ : ByteArray)) ++ numB y.f4) ++ (⟨#[93]⟩ : ByteArray) by rw [← HRE.out.1, HWB.out, if_pos hx]; simp only [ByteArray.append_assoc])
        clear hmg hok h3
        go_enter Tryz.func49, Tryz.ntmps49
        go_wp2
        have HB3 := Aside0.mk (below_drew (Below.refl (((w.alloc (.cells #[.slice A0_0 l0_0.length c0_0, .slice A0_1 l0_1.length c0_1, .slice (some adc) l0_2.length c0_2, .slice A0_3 l0_3.length c0_3, .slice A0_4 l0_4.length c0_4] 27)).alloc (.cells #[.int .i64 a1_0, .slice A1_1 l1_1.length c1_1, .slice A1_2 l1_2.length c1_2, .slice (some adl) l1_3.length c1_3, .slice A1_4 l1_4.length c1_4] 35)).alloc (.cells #[.int .i64 y.f0, .int .i64 y.f1, .bool y.f2, .int .i64 j, .int .i64 y.f4] 94)).heap.size (((w.alloc (.cells #[.slice A0_0 l0_0.length c0_0, .slice A0_1 l0_1.length c0_1, .slice (some adc) l0_2.length c0_2, .slice A0_3 l0_3.length c0_3, .slice A0_4 l0_4.length c0_4] 27)).alloc (.cells #[.int .i64 a1_0, .slice A1_1 l1_1.length c1_1, .slice A1_2 l1_2.length c1_2, .slice (some adl) l1_3.length c1_3, .slice A1_4 l1_4.length c1_4] 35)).alloc (.cells #[.int .i64 y.f0, .int .i64 y.f1, .bool y.f2, .int .i64 j, .int .i64 y.f4] 94))))
        go_region_held3 (fun w' => w'.cell? ⟨w.heap.size, 2, none⟩ = some (.slice (some adc) l0_2.length c0_2) ∧ w'.cell? ⟨w.heap.size + 1 + 1, 3, none⟩ = some (.int .i64 j) ∧ w'.cell? ⟨w.heap.size + 1 + 1, 4, none⟩ = some (.int .i64 y.f4) ∧ w'.cell? (adc.add (j * 4)) = some (.string nm)) (exact TS.out _ HB3.out) (first | (go_at_call 71; refine (proofmarkref27_Num.calls 30 y.f4 (numB y.f4) _ HNU.out).mono ?_; rintro e w' ⟨rfl, hb⟩; have n2 := Aside0.mk (below_step HB3.out hb); clear HB3 hb; have HB3 := n2; clear n2))
        all_goals (
          go_wp2
          go_ret2
          exact ⟨by rw [HRX.out, ← HRE.out.2]; rfl, below_step HBB.out HB3.out⟩)
      · obtain rfl : a2 = (m : Int) + 1 := by rw [mag_pos a2 h3.2 hx, HMG.out]
        have HRX := Aside0.mk (show r1 = ((((⟨#[]⟩ : ByteArray) ++ nm) ++ (⟨#[91]⟩ : ByteArray)) ++ numB y.f4) ++ (⟨#[93]⟩ : ByteArray) by rw [← HRE.out.1, HWB.out, if_neg hx]; simp [app_str])
        clear hmg hok h3 hx
        go_enter Tryz.func49, Tryz.ntmps49
        go_wp2
        have HB3 := Aside0.mk (below_drew (Below.refl (((w.alloc (.cells #[.slice A0_0 l0_0.length c0_0, .slice A0_1 l0_1.length c0_1, .slice (some adc) l0_2.length c0_2, .slice A0_3 l0_3.length c0_3, .slice A0_4 l0_4.length c0_4] 27)).alloc (.cells #[.int .i64 a1_0, .slice A1_1 l1_1.length c1_1, .slice A1_2 l1_2.length c1_2, .slice (some adl) l1_3.length c1_3, .slice A1_4 l1_4.length c1_4] 35)).alloc (.cells #[.int .i64 y.f0, .int .i64 y.f1, .bool y.f2, .int .i64 j, .int .i64 y.f4] 94)).heap.size (((w.alloc (.cells #[.slice A0_0 l0_0.length c0_0, .slice A0_1 l0_1.length c0_1, .slice (some adc) l0_2.length c0_2, .slice A0_3 l0_3.length c0_3, .slice A0_4 l0_4.length c0_4] 27)).alloc (.cells #[.int .i64 a1_0, .slice A1_1 l1_1.length c1_1, .slice A1_2 l1_2.length c1_2, .slice (some adl) l1_3.length c1_3, .slice A1_4 l1_4.length c1_4] 35)).alloc (.cells #[.int .i64 y.f0, .int .i64 y.f1, .bool y.f2, .int .i64 j, .int .i64 y.f4] 94))))
        go_region_held3 (fun w' => w'.cell? ⟨w.heap.size, 2, none⟩ = some (.slice (some adc) l0_2.length c0_2) ∧ w'.cell? ⟨w.heap.size + 1 + 1, 3, none⟩ = some (.int .i64 j) ∧ w'.cell? ⟨w.heap.size + 1 + 1, 4, none⟩ = some (.int .i64 y.f4) ∧ w'.cell? (adc.add (j * 4)) = some (.string nm)) (exact TS.out _ HB3.out) (first | (go_at_call 71; refine (proofmarkref27_Num.calls 30 y.f4 (numB y.f4) _ HNU.out).mono ?_; rintro e w' ⟨rfl, hb⟩; have n2 := Aside0.mk (below_step HB3.out hb); clear HB3 hb; have HB3 := n2; clear n2))
        all_goals (
          go_wp2
          go_ret2
          exact ⟨by rw [HRX.out, ← HRE.out.2]; rfl, below_step HBB.out HB3.out⟩)
    · have HRE := Aside0.mk (show (⟨#[]⟩ : ByteArray) = r1 ∧ false = r2 by have := HF.out; rw [if_neg hok] at this; exact ⟨congrArg Prod.fst this, congrArg Prod.snd this⟩)
      simp only [litOk, decide_eq_true_eq, hmg] at hok
      by_cases hx : a2 < 0
      · have hw1 : wrap64 (-a2) = mg := by rw [mag_neg a2 h3.1 hx, HMG.out]
        have hw2 : IntKind.i64.wrap (-a2) = mg := by rw [IntKind.wrap_i64]; unfold wrap64 at hw1; omega
        clear hmg h3
        by_cases h1 : mg < 1
        · clear hok
          go_enter Tryz.func49, Tryz.ntmps49
          go_wp2
          go_ret2
          exact ⟨by rw [← HRE.out.1, ← HRE.out.2]; rfl, HB.out⟩
        · have h2 : (l1_3.length : Int) < mg := by omega
          clear hok
          go_enter Tryz.func49, Tryz.ntmps49
          go_wp2
          go_ret2
          exact ⟨by rw [← HRE.out.1, ← HRE.out.2]; rfl, HB.out⟩
      · obtain rfl : a2 = mg := by rw [mag_pos a2 h3.2 hx, HMG.out]
        clear hmg h3
        by_cases h1 : a2 < 1
        · clear hok
          go_enter Tryz.func49, Tryz.ntmps49
          go_wp2
          go_ret2
          exact ⟨by rw [← HRE.out.1, ← HRE.out.2]; rfl, HB.out⟩
        · have h2 : (l1_3.length : Int) < a2 := by omega
          clear hok hx
          go_enter Tryz.func49, Tryz.ntmps49
          go_wp2
          go_ret2
          exact ⟨by rw [← HRE.out.1, ← HRE.out.2]; rfl, HB.out⟩
  · rw [if_neg hb] at h; exact absurd h (by simp)
theorem joinR_snoc (l : List (List UInt8)) (y s : List UInt8) (h : l ≠ []) : Lib.join (l ++ [y]) s = Lib.join l s ++ (s ++ y) := by
  cases l with
  | nil => exact absurd rfl h
  | cons x r =>
    rw [List.cons_append, Lib.join_cons, Lib.join_cons]
    unfold Lib.joinTail
    simp
theorem joinR_one (y s : List UInt8) : Lib.join [y] s = y := by rw [Lib.join_cons]; simp [Lib.joinTail]
def proofmarkref27_Clause.f (l0_0 : List (S125)) (l0_1 : List (S72)) (l0_2 : List (S114)) (l0_3 : List (S105)) (l0_4 : List (S72)) (a1_0 : Int) (l1_1 : List (S199)) (l1_2 : List (S200)) (l1_3 : List (S94)) (l1_4 : List (S202)) (l2 : List Int) : Option (ByteArray) := if (namesFit l0_1 && cellsFit l0_2 && l2.all (fun x => (Lit.int .i64 x).wf)) = true then lift_Clause.f l0_0 l0_1 l0_2 l0_3 l0_4 a1_0 l1_1 l1_2 l1_3 l1_4 l2 else none
set_option maxHeartbeats 16000000 in
set_option maxRecDepth 100000 in
theorem proofmarkref27_Clause.calls (A0_0 : Option Addr) (c0_0 : Nat) (l0_0 : List (S125)) (A0_1 : Option Addr) (c0_1 : Nat) (l0_1 : List (S72)) (A0_2 : Option Addr) (c0_2 : Nat) (l0_2 : List (S114)) (A0_3 : Option Addr) (c0_3 : Nat) (l0_3 : List (S105)) (A0_4 : Option Addr) (c0_4 : Nat) (l0_4 : List (S72)) (a1_0 : Int) (A1_1 : Option Addr) (c1_1 : Nat) (l1_1 : List (S199)) (A1_2 : Option Addr) (c1_2 : Nat) (l1_2 : List (S200)) (A1_3 : Option Addr) (c1_3 : Nat) (l1_3 : List (S94)) (A1_4 : Option Addr) (c1_4 : Nat) (l1_4 : List (S202)) (A2 : Option Addr) (c2 : Nat) (l2 : List Int) (r : ByteArray) (w : World) (hr0_0 : Kd.C k125 w A0_0 l0_0.length l0_0) (hc0_0 : l0_0.length ≤ c0_0) (hr0_1 : Kd.C k72 w A0_1 l0_1.length l0_1) (hc0_1 : l0_1.length ≤ c0_1) (hr0_2 : Kd.C k114 w A0_2 l0_2.length l0_2) (hc0_2 : l0_2.length ≤ c0_2) (hr0_3 : Kd.C k105 w A0_3 l0_3.length l0_3) (hc0_3 : l0_3.length ≤ c0_3) (hr0_4 : Kd.C k72 w A0_4 l0_4.length l0_4) (hc0_4 : l0_4.length ≤ c0_4) (hr1_1 : Kd.C k199 w A1_1 l1_1.length l1_1) (hc1_1 : l1_1.length ≤ c1_1) (hr1_2 : Kd.C k200 w A1_2 l1_2.length l1_2) (hc1_2 : l1_2.length ≤ c1_2) (hr1_3 : Kd.C k94 w A1_3 l1_3.length l1_3) (hc1_3 : l1_3.length ≤ c1_3) (hr1_4 : Kd.C k202 w A1_4 l1_4.length l1_4) (hc1_4 : l1_4.length ≤ c1_4) (hr2 : Kd.C (Kd.int .i64) w A2 l2.length l2) (hc2 : l2.length ≤ c2) (h : proofmarkref27_Clause.f l0_0 l0_1 l0_2 l0_3 l0_4 a1_0 l1_1 l1_2 l1_3 l1_4 l2 = some r) :
    Calls Tryz.prog 17 #[.agg #[.slice A0_0 l0_0.length c0_0, .slice A0_1 l0_1.length c0_1, .slice A0_2 l0_2.length c0_2, .slice A0_3 l0_3.length c0_3, .slice A0_4 l0_4.length c0_4], .agg #[.int .i64 a1_0, .slice A1_1 l1_1.length c1_1, .slice A1_2 l1_2.length c1_2, .slice A1_3 l1_3.length c1_3, .slice A1_4 l1_4.length c1_4], .slice A2 l2.length c2] w fun e w' => e = .returned (.string r) ∧ Below w.heap.size w w' := by
  unfold proofmarkref27_Clause.f at h
  by_cases hb : (namesFit l0_1 && cellsFit l0_2 && l2.all (fun x => (Lit.int .i64 x).wf)) = true
  · rw [if_pos hb] at h
    simp only [Bool.and_eq_true] at hb
    obtain ⟨⟨b1, b2⟩, b3⟩ := hb
    have g1 := namesFit_out b1
    have g2 := cellsFit_out b2
    obtain ⟨kn, hkn⟩ := named_ex l0_0 l0_1 l0_2 l0_3 l0_4 g1.1 g1.2 g2.1 g2.2
    have HNF := Aside0.mk hkn
    have HCF := Aside0.mk b2
    have HXW := Aside0.mk b3
    unfold lift_Clause.f at h
    by_cases hb2 : clauseFit l0_1 l0_2 l1_3 l2 = true
    · rw [if_pos hb2] at h
      have HF := Aside0.mk (show (⟨(clauseB l0_1 l0_2 l1_3 l2).toArray⟩ : ByteArray) = r from Option.some.inj h)
      simp only [clauseFit, Bool.and_eq_true, decide_eq_true_eq] at hb2
      obtain ⟨⟨⟨⟨f1, f2⟩, f3⟩, f4⟩, f5⟩ := hb2
      have HCN := Aside0.mk (show ∀ x ∈ l0_2, x.f0.size ≤ 10000 from fun x hx => of_decide_eq_true (List.all_eq_true.1 f3 x hx))
      have HLW := Aside0.mk f4
      have H0 := Aside0.mk (And.intro hr0_0 hc0_0)
      have H1 := Aside0.mk (And.intro hr0_1 hc0_1)
      have H2 := Aside0.mk (And.intro hr0_2 hc0_2)
      have H3 := Aside0.mk (And.intro hr0_3 hc0_3)
      have H4 := Aside0.mk (And.intro hr0_4 hc0_4)
      have K1 := Aside0.mk (And.intro hr1_1 hc1_1)
      have K2 := Aside0.mk (And.intro hr1_2 hc1_2)
      have K3 := Aside0.mk (And.intro hr1_3 hc1_3)
      have K4 := Aside0.mk (And.intro hr1_4 hc1_4)
      have HR2 := Aside0.mk hr2
      clear hkn g1 g2 b1 b2 b3 f1 f2 f3 f4 hr2 hc2
      clear h hr0_0 hc0_0 hr0_1 hc0_1 hr0_2 hc0_2 hr0_3 hc0_3 hr0_4 hc0_4 hr1_1 hc1_1 hr1_2 hc1_2 hr1_3 hc1_3 hr1_4 hc1_4
      have HO := Aside0.mk (two_boxes w (.cells #[.slice A0_0 l0_0.length c0_0, .slice A0_1 l0_1.length c0_1, .slice A0_2 l0_2.length c0_2, .slice A0_3 l0_3.length c0_3, .slice A0_4 l0_4.length c0_4] 27) (.cells #[.int .i64 a1_0, .slice A1_1 l1_1.length c1_1, .slice A1_2 l1_2.length c1_2, .slice A1_3 l1_3.length c1_3, .slice A1_4 l1_4.length c1_4] 35))
      have HB := Aside0.mk (below_alloc (below_alloc (Below.refl w.heap.size w) (.cells #[.slice A0_0 l0_0.length c0_0, .slice A0_1 l0_1.length c0_1, .slice A0_2 l0_2.length c0_2, .slice A0_3 l0_3.length c0_3, .slice A0_4 l0_4.length c0_4] 27)) (.cells #[.int .i64 a1_0, .slice A1_1 l1_1.length c1_1, .slice A1_2 l1_2.length c1_2, .slice A1_3 l1_3.length c1_3, .slice A1_4 l1_4.length c1_4] 35))
      cases hU : (unlikeB (namesP l0_1) && unlikeB (namesC l0_2))
      · rw [hU] at HNF
        have HRE := Aside0.mk (show r = ⟨#[]⟩ by rw [← HF.out]; unfold clauseB; rw [if_neg (by rw [hU]; simp)])
        clear hU
        go_enter Tryz.func17, Tryz.ntmps17
        go_wp2_with (first | (go_at_call 39; refine (proofmarkref27_Named.calls kn A0_0 c0_0 l0_0 A0_1 c0_1 l0_1 A0_2 c0_2 l0_2 A0_3 c0_3 l0_3 A0_4 c0_4 l0_4 _ _ (Kd.C_below H0.out.1 HB.out) H0.out.2 (Kd.C_below H1.out.1 HB.out) H1.out.2 (Kd.C_below H2.out.1 HB.out) H2.out.2 (Kd.C_below H3.out.1 HB.out) H3.out.2 (Kd.C_below H4.out.1 HB.out) H4.out.2 HNF.out).mono ?_; rintro e w2 ⟨rfl, hb⟩; have n2 := Aside0.mk (below_step HB.out hb); have n3 := Aside0.mk (And.intro ((hb.block _ (Array.getElem?_eq_some_iff.1 HO.out.1).1).trans HO.out.1) ((hb.block _ (Array.getElem?_eq_some_iff.1 HO.out.2).1).trans HO.out.2)); clear HB HO hb; have HB := n2; have HO := n3; clear n2 n3; have m0 := Lib.cell_of_heap HO.out.1 0; have m1 := Lib.cell_of_heap HO.out.1 1; have m2 := Lib.cell_of_heap HO.out.1 2; have m3 := Lib.cell_of_heap HO.out.1 3; have m4 := Lib.cell_of_heap HO.out.1 4; have q0 := Lib.cell_of_heap HO.out.2 0; have q1 := Lib.cell_of_heap HO.out.2 1; have q2 := Lib.cell_of_heap HO.out.2 2; have q3 := Lib.cell_of_heap HO.out.2 3; have q4 := Lib.cell_of_heap HO.out.2 4))
        go_ret
        exact ⟨by rw [HRE.out]; rfl, HB.out⟩
      · rw [hU] at HNF
        cases hV : goesB l0_2.length l1_3
        · have HGF := Aside0.mk (show proofmarkref27_Goes.f l0_0 l0_1 l0_2 l0_3 l0_4 a1_0 l1_1 l1_2 l1_3 l1_4 = some false by unfold proofmarkref27_Goes.f; rw [hV])
          have HRE := Aside0.mk (show r = ⟨#[]⟩ by rw [← HF.out]; unfold clauseB; rw [if_neg (by rw [hV]; simp)])
          clear hU hV
          go_enter Tryz.func17, Tryz.ntmps17
          go_wp2_with (first | (go_at_call 39; refine (proofmarkref27_Named.calls kn A0_0 c0_0 l0_0 A0_1 c0_1 l0_1 A0_2 c0_2 l0_2 A0_3 c0_3 l0_3 A0_4 c0_4 l0_4 _ _ (Kd.C_below H0.out.1 HB.out) H0.out.2 (Kd.C_below H1.out.1 HB.out) H1.out.2 (Kd.C_below H2.out.1 HB.out) H2.out.2 (Kd.C_below H3.out.1 HB.out) H3.out.2 (Kd.C_below H4.out.1 HB.out) H4.out.2 HNF.out).mono ?_; rintro e w2 ⟨rfl, hb⟩; have n2 := Aside0.mk (below_step HB.out hb); have n3 := Aside0.mk (And.intro ((hb.block _ (Array.getElem?_eq_some_iff.1 HO.out.1).1).trans HO.out.1) ((hb.block _ (Array.getElem?_eq_some_iff.1 HO.out.2).1).trans HO.out.2)); clear HB HO hb; have HB := n2; have HO := n3; clear n2 n3; have m0 := Lib.cell_of_heap HO.out.1 0; have m1 := Lib.cell_of_heap HO.out.1 1; have m2 := Lib.cell_of_heap HO.out.1 2; have m3 := Lib.cell_of_heap HO.out.1 3; have m4 := Lib.cell_of_heap HO.out.1 4; have q0 := Lib.cell_of_heap HO.out.2 0; have q1 := Lib.cell_of_heap HO.out.2 1; have q2 := Lib.cell_of_heap HO.out.2 2; have q3 := Lib.cell_of_heap HO.out.2 3; have q4 := Lib.cell_of_heap HO.out.2 4) | (go_at_call 48; refine (proofmarkref27_Goes.calls A0_0 c0_0 l0_0 A0_1 c0_1 l0_1 A0_2 c0_2 l0_2 A0_3 c0_3 l0_3 A0_4 c0_4 l0_4 a1_0 A1_1 c1_1 l1_1 A1_2 c1_2 l1_2 A1_3 c1_3 l1_3 A1_4 c1_4 l1_4 _ _ (Kd.C_below H0.out.1 HB.out) H0.out.2 (Kd.C_below H1.out.1 HB.out) H1.out.2 (Kd.C_below H2.out.1 HB.out) H2.out.2 (Kd.C_below H3.out.1 HB.out) H3.out.2 (Kd.C_below H4.out.1 HB.out) H4.out.2 (Kd.C_below K1.out.1 HB.out) K1.out.2 (Kd.C_below K2.out.1 HB.out) K2.out.2 (Kd.C_below K3.out.1 HB.out) K3.out.2 (Kd.C_below K4.out.1 HB.out) K4.out.2 HGF.out).mono ?_; rintro e w2 ⟨rfl, hb⟩; have n2 := Aside0.mk (below_step HB.out hb); have n3 := Aside0.mk (And.intro ((hb.block _ (Array.getElem?_eq_some_iff.1 HO.out.1).1).trans HO.out.1) ((hb.block _ (Array.getElem?_eq_some_iff.1 HO.out.2).1).trans HO.out.2)); clear HB HO hb; have HB := n2; have HO := n3; clear n2 n3; have m0 := Lib.cell_of_heap HO.out.1 0; have m1 := Lib.cell_of_heap HO.out.1 1; have m2 := Lib.cell_of_heap HO.out.1 2; have m3 := Lib.cell_of_heap HO.out.1 3; have m4 := Lib.cell_of_heap HO.out.1 4; have q0 := Lib.cell_of_heap HO.out.2 0; have q1 := Lib.cell_of_heap HO.out.2 1; have q2 := Lib.cell_of_heap HO.out.2 2; have q3 := Lib.cell_of_heap HO.out.2 3; have q4 := Lib.cell_of_heap HO.out.2 4))
          go_ret
          exact ⟨by rw [HRE.out]; rfl, HB.out⟩
        · have HGF := Aside0.mk (show proofmarkref27_Goes.f l0_0 l0_1 l0_2 l0_3 l0_4 a1_0 l1_1 l1_2 l1_3 l1_4 = some true by unfold proofmarkref27_Goes.f; rw [hV])
          have HRE := Aside0.mk (show r = ⟨(if l2 = [] then [102, 97, 108, 115, 101] else if l2.all (litOk l1_3.length) = true then joinB (l2.map (wordB l0_2 l1_3)) barB else []).toArray⟩ by rw [← HF.out]; unfold clauseB; rw [if_pos ⟨hU, hV⟩])
          have HGB := Aside0.mk hV
          clear hU hV
          by_cases hn : l2 = []
          · subst hn
            have HRF := Aside0.mk (show r = ⟨#[102, 97, 108, 115, 101]⟩ by rw [HRE.out, if_pos rfl])
            have h0 : ((([] : List Int).length : Int) == 0) = true := rfl
            go_enter Tryz.func17, Tryz.ntmps17
            go_wp2_with (first | (go_at_call 39; refine (proofmarkref27_Named.calls kn A0_0 c0_0 l0_0 A0_1 c0_1 l0_1 A0_2 c0_2 l0_2 A0_3 c0_3 l0_3 A0_4 c0_4 l0_4 _ _ (Kd.C_below H0.out.1 HB.out) H0.out.2 (Kd.C_below H1.out.1 HB.out) H1.out.2 (Kd.C_below H2.out.1 HB.out) H2.out.2 (Kd.C_below H3.out.1 HB.out) H3.out.2 (Kd.C_below H4.out.1 HB.out) H4.out.2 HNF.out).mono ?_; rintro e w2 ⟨rfl, hb⟩; have n2 := Aside0.mk (below_step HB.out hb); have n3 := Aside0.mk (And.intro ((hb.block _ (Array.getElem?_eq_some_iff.1 HO.out.1).1).trans HO.out.1) ((hb.block _ (Array.getElem?_eq_some_iff.1 HO.out.2).1).trans HO.out.2)); clear HB HO hb; have HB := n2; have HO := n3; clear n2 n3; have m0 := Lib.cell_of_heap HO.out.1 0; have m1 := Lib.cell_of_heap HO.out.1 1; have m2 := Lib.cell_of_heap HO.out.1 2; have m3 := Lib.cell_of_heap HO.out.1 3; have m4 := Lib.cell_of_heap HO.out.1 4; have q0 := Lib.cell_of_heap HO.out.2 0; have q1 := Lib.cell_of_heap HO.out.2 1; have q2 := Lib.cell_of_heap HO.out.2 2; have q3 := Lib.cell_of_heap HO.out.2 3; have q4 := Lib.cell_of_heap HO.out.2 4) | (go_at_call 48; refine (proofmarkref27_Goes.calls A0_0 c0_0 l0_0 A0_1 c0_1 l0_1 A0_2 c0_2 l0_2 A0_3 c0_3 l0_3 A0_4 c0_4 l0_4 a1_0 A1_1 c1_1 l1_1 A1_2 c1_2 l1_2 A1_3 c1_3 l1_3 A1_4 c1_4 l1_4 _ _ (Kd.C_below H0.out.1 HB.out) H0.out.2 (Kd.C_below H1.out.1 HB.out) H1.out.2 (Kd.C_below H2.out.1 HB.out) H2.out.2 (Kd.C_below H3.out.1 HB.out) H3.out.2 (Kd.C_below H4.out.1 HB.out) H4.out.2 (Kd.C_below K1.out.1 HB.out) K1.out.2 (Kd.C_below K2.out.1 HB.out) K2.out.2 (Kd.C_below K3.out.1 HB.out) K3.out.2 (Kd.C_below K4.out.1 HB.out) K4.out.2 HGF.out).mono ?_; rintro e w2 ⟨rfl, hb⟩; have n2 := Aside0.mk (below_step HB.out hb); have n3 := Aside0.mk (And.intro ((hb.block _ (Array.getElem?_eq_some_iff.1 HO.out.1).1).trans HO.out.1) ((hb.block _ (Array.getElem?_eq_some_iff.1 HO.out.2).1).trans HO.out.2)); clear HB HO hb; have HB := n2; have HO := n3; clear n2 n3; have m0 := Lib.cell_of_heap HO.out.1 0; have m1 := Lib.cell_of_heap HO.out.1 1; have m2 := Lib.cell_of_heap HO.out.1 2; have m3 := Lib.cell_of_heap HO.out.1 3; have m4 := Lib.cell_of_heap HO.out.1 4; have q0 := Lib.cell_of_heap HO.out.2 0; have q1 := Lib.cell_of_heap HO.out.2 1; have q2 := Lib.cell_of_heap HO.out.2 2; have q3 := Lib.cell_of_heap HO.out.2 3; have q4 := Lib.cell_of_heap HO.out.2 4))
            go_ret
            exact ⟨by rw [HRF.out]; rfl, HB.out⟩
          · have HRF := Aside0.mk (show r = ⟨(if l2.all (litOk l1_3.length) = true then joinB (l2.map (wordB l0_2 l1_3)) barB else []).toArray⟩ by rw [HRE.out, if_neg hn])
            have hnz : 0 < l2.length := List.length_pos_iff.2 hn
            have h0 : ((l2.length : Int) == 0) = false := beq_eq_false_iff_ne.mpr (by omega)
            clear hn
            go_enter Tryz.func17, Tryz.ntmps17
            go_wp2_with (first | (go_at_call 39; refine (proofmarkref27_Named.calls kn A0_0 c0_0 l0_0 A0_1 c0_1 l0_1 A0_2 c0_2 l0_2 A0_3 c0_3 l0_3 A0_4 c0_4 l0_4 _ _ (Kd.C_below H0.out.1 HB.out) H0.out.2 (Kd.C_below H1.out.1 HB.out) H1.out.2 (Kd.C_below H2.out.1 HB.out) H2.out.2 (Kd.C_below H3.out.1 HB.out) H3.out.2 (Kd.C_below H4.out.1 HB.out) H4.out.2 HNF.out).mono ?_; rintro e w2 ⟨rfl, hb⟩; have n2 := Aside0.mk (below_step HB.out hb); have n3 := Aside0.mk (And.intro ((hb.block _ (Array.getElem?_eq_some_iff.1 HO.out.1).1).trans HO.out.1) ((hb.block _ (Array.getElem?_eq_some_iff.1 HO.out.2).1).trans HO.out.2)); clear HB HO hb; have HB := n2; have HO := n3; clear n2 n3; have m0 := Lib.cell_of_heap HO.out.1 0; have m1 := Lib.cell_of_heap HO.out.1 1; have m2 := Lib.cell_of_heap HO.out.1 2; have m3 := Lib.cell_of_heap HO.out.1 3; have m4 := Lib.cell_of_heap HO.out.1 4; have q0 := Lib.cell_of_heap HO.out.2 0; have q1 := Lib.cell_of_heap HO.out.2 1; have q2 := Lib.cell_of_heap HO.out.2 2; have q3 := Lib.cell_of_heap HO.out.2 3; have q4 := Lib.cell_of_heap HO.out.2 4) | (go_at_call 48; refine (proofmarkref27_Goes.calls A0_0 c0_0 l0_0 A0_1 c0_1 l0_1 A0_2 c0_2 l0_2 A0_3 c0_3 l0_3 A0_4 c0_4 l0_4 a1_0 A1_1 c1_1 l1_1 A1_2 c1_2 l1_2 A1_3 c1_3 l1_3 A1_4 c1_4 l1_4 _ _ (Kd.C_below H0.out.1 HB.out) H0.out.2 (Kd.C_below H1.out.1 HB.out) H1.out.2 (Kd.C_below H2.out.1 HB.out) H2.out.2 (Kd.C_below H3.out.1 HB.out) H3.out.2 (Kd.C_below H4.out.1 HB.out) H4.out.2 (Kd.C_below K1.out.1 HB.out) K1.out.2 (Kd.C_below K2.out.1 HB.out) K2.out.2 (Kd.C_below K3.out.1 HB.out) K3.out.2 (Kd.C_below K4.out.1 HB.out) K4.out.2 HGF.out).mono ?_; rintro e w2 ⟨rfl, hb⟩; have n2 := Aside0.mk (below_step HB.out hb); have n3 := Aside0.mk (And.intro ((hb.block _ (Array.getElem?_eq_some_iff.1 HO.out.1).1).trans HO.out.1) ((hb.block _ (Array.getElem?_eq_some_iff.1 HO.out.2).1).trans HO.out.2)); clear HB HO hb; have HB := n2; have HO := n3; clear n2 n3; have m0 := Lib.cell_of_heap HO.out.1 0; have m1 := Lib.cell_of_heap HO.out.1 1; have m2 := Lib.cell_of_heap HO.out.1 2; have m3 := Lib.cell_of_heap HO.out.1 3; have m4 := Lib.cell_of_heap HO.out.1 4; have q0 := Lib.cell_of_heap HO.out.2 0; have q1 := Lib.cell_of_heap HO.out.2 1; have q2 := Lib.cell_of_heap HO.out.2 2; have q3 := Lib.cell_of_heap HO.out.2 3; have q4 := Lib.cell_of_heap HO.out.2 4))
            clear h0
            have HBA := HB
            clear HB
            try clear m0 m1 m2 m3 m4 q0 q1 q2 q3 q4
            try clear m0 m1 m2 m3 m4 q0 q1 q2 q3 q4
            rename World => w3
            try simp only [Act.put, List.setIfInBounds_toArray, List.set_cons_succ, List.set_cons_zero]
            go_loopg [7, 8] l2.length (fun kq v7 v8 wr => ∃ (k : Nat) (cs : ByteArray), v7 = .string cs ∧ v8 = .int .i64 k ∧ k ≤ l2.length ∧ Aside0 (kq = l2.length - k) ∧ Aside0 (cs.data.toList = joinB ((l2.take k).map (wordB l0_2 l1_3)) barB) ∧ Aside0 ((l2.take k).all (litOk l1_3.length) = true) ∧ Aside0 (Below w3.heap.size w3 wr))
            case atStart => exact ⟨0, _, rfl, rfl, by omega, ⟨by omega⟩, ⟨by simp [joinB, Lib.join_nil]⟩, ⟨rfl⟩, ⟨Below.refl _ _⟩⟩
            case round =>
              obtain ⟨k, cs, rfl, rfl, hk, HQ, HCS, HA, HB2⟩ := hrel
              have HB := Aside0.mk (below_step HBA.out HB2.out)
              by_cases hlt : k < l2.length
              · have hi0 : 0 ≤ (k : Int) := by omega
                have hi1 : (k : Int) < l2.length := by omega
                obtain ⟨adr, er, xr⟩ := Kd.at_int HR2.out (k : Int) hi0 hi1
                cases er
                have hto : (k : Int).toNat = k := by omega
                simp only [hto] at xr
                clear hto
                generalize hxv : rd l2 (k : Int) = xv at xr
                have HXV := Aside0.mk (show l2[k] = xv by rw [← hxv]; simp [rd, hlt])
                clear hxv
                have hwx : (Lit.int .i64 xv).wf = true := by rw [← HXV.out]; exact List.all_eq_true.1 HXW.out _ (List.getElem_mem hlt)
                have hgd : (goesB l0_2.length l1_3 && cellsFit l0_2 && l1_3.all (fun x => (Lit.int .i64 x.f4).wf) && (Lit.int .i64 xv).wf) = true := by rw [HGB.out, HCF.out, HLW.out, hwx]; rfl
                have hcz : cs.size ≤ 100270000 := by
                  have := join_len barB.data.toList 10024 (((l2.take k).map (wordB l0_2 l1_3)).map (·.data.toList)) (fun z hz => by
                    obtain ⟨b, hb, rfl⟩ := List.mem_map.1 hz
                    obtain ⟨x, hx, rfl⟩ := List.mem_map.1 hb
                    have := wordB_size l0_2 l1_3 x HCN.out HLW.out (List.all_eq_true.1 HA.out x hx)
                    simpa using this)
                  have e : barB.data.toList.length = 3 := rfl
                  rw [e] at this
                  simp only [List.length_map, List.length_take] at this
                  have e3 : cs.data.toList.length = cs.size := by simp
                  rw [HCS.out] at e3
                  unfold joinB at e3
                  omega
                have TS := Aside0.mk (show ∀ w' : World, Below w.heap.size w w' → Below w3.heap.size w3 w' → (w'.cell? ⟨w.heap.size, 0, none⟩ = some (.slice A0_0 l0_0.length c0_0) ∧ w'.cell? ⟨w.heap.size, 1, none⟩ = some (.slice A0_1 l0_1.length c0_1) ∧ w'.cell? ⟨w.heap.size, 2, none⟩ = some (.slice A0_2 l0_2.length c0_2) ∧ w'.cell? ⟨w.heap.size, 3, none⟩ = some (.slice A0_3 l0_3.length c0_3) ∧ w'.cell? ⟨w.heap.size, 4, none⟩ = some (.slice A0_4 l0_4.length c0_4) ∧ w'.cell? ⟨w.heap.size + 1, 0, none⟩ = some (.int .i64 a1_0) ∧ w'.cell? ⟨w.heap.size + 1, 1, none⟩ = some (.slice A1_1 l1_1.length c1_1) ∧ w'.cell? ⟨w.heap.size + 1, 2, none⟩ = some (.slice A1_2 l1_2.length c1_2) ∧ w'.cell? ⟨w.heap.size + 1, 3, none⟩ = some (.slice A1_3 l1_3.length c1_3) ∧ w'.cell? ⟨w.heap.size + 1, 4, none⟩ = some (.slice A1_4 l1_4.length c1_4) ∧ w'.cell? (adr.add k) = some (.int .i64 xv)) from fun w' q1 q2 =>
                  ⟨Lib.cell_of_heap ((q2.block _ (Array.getElem?_eq_some_iff.1 HO.out.1).1).trans HO.out.1) 0, Lib.cell_of_heap ((q2.block _ (Array.getElem?_eq_some_iff.1 HO.out.1).1).trans HO.out.1) 1, Lib.cell_of_heap ((q2.block _ (Array.getElem?_eq_some_iff.1 HO.out.1).1).trans HO.out.1) 2, Lib.cell_of_heap ((q2.block _ (Array.getElem?_eq_some_iff.1 HO.out.1).1).trans HO.out.1) 3, Lib.cell_of_heap ((q2.block _ (Array.getElem?_eq_some_iff.1 HO.out.1).1).trans HO.out.1) 4, Lib.cell_of_heap ((q2.block _ (Array.getElem?_eq_some_iff.1 HO.out.2).1).trans HO.out.2) 0, Lib.cell_of_heap ((q2.block _ (Array.getElem?_eq_some_iff.1 HO.out.2).1).trans HO.out.2) 1, Lib.cell_of_heap ((q2.block _ (Array.getElem?_eq_some_iff.1 HO.out.2).1).trans HO.out.2) 2, Lib.cell_of_heap ((q2.block _ (Array.getElem?_eq_some_iff.1 HO.out.2).1).trans HO.out.2) 3, Lib.cell_of_heap ((q2.block _ (Array.getElem?_eq_some_iff.1 HO.out.2).1).trans HO.out.2) 4, pw_cell_below q1 xr⟩)
                clear xr
                cases hok : litOk l1_3.length xv
                · have HLF := Aside0.mk (show proofmarkref27_lit.f l0_0 l0_1 l0_2 l0_3 l0_4 a1_0 l1_1 l1_2 l1_3 l1_4 xv = some ((⟨#[]⟩ : ByteArray), false) by unfold proofmarkref27_lit.f; rw [if_pos hgd, hok]; rfl)
                  have HRN := Aside0.mk (show r = ⟨#[]⟩ by rw [HRF.out, if_neg (by rw [all_take_false hlt (by rw [HXV.out]; exact hok)]; simp)])
                  clear hok hgd hcz hwx
                  go_wp2
                  have n1 := Aside0.mk (below_drew HB.out)
                  have n2 := Aside0.mk (below_drew HB2.out)
                  clear HB HB2
                  have HB := n1
                  have HB2 := n2
                  clear n1 n2
                  go_region_held3 (fun w' => w'.cell? ⟨w.heap.size, 0, none⟩ = some (.slice A0_0 l0_0.length c0_0) ∧ w'.cell? ⟨w.heap.size, 1, none⟩ = some (.slice A0_1 l0_1.length c0_1) ∧ w'.cell? ⟨w.heap.size, 2, none⟩ = some (.slice A0_2 l0_2.length c0_2) ∧ w'.cell? ⟨w.heap.size, 3, none⟩ = some (.slice A0_3 l0_3.length c0_3) ∧ w'.cell? ⟨w.heap.size, 4, none⟩ = some (.slice A0_4 l0_4.length c0_4) ∧ w'.cell? ⟨w.heap.size + 1, 0, none⟩ = some (.int .i64 a1_0) ∧ w'.cell? ⟨w.heap.size + 1, 1, none⟩ = some (.slice A1_1 l1_1.length c1_1) ∧ w'.cell? ⟨w.heap.size + 1, 2, none⟩ = some (.slice A1_2 l1_2.length c1_2) ∧ w'.cell? ⟨w.heap.size + 1, 3, none⟩ = some (.slice A1_3 l1_3.length c1_3) ∧ w'.cell? ⟨w.heap.size + 1, 4, none⟩ = some (.slice A1_4 l1_4.length c1_4) ∧ w'.cell? (adr.add k) = some (.int .i64 xv)) (exact TS.out _ HB.out HB2.out) (first | (go_at_call 49; refine (proofmarkref27_lit.calls A0_0 c0_0 l0_0 A0_1 c0_1 l0_1 A0_2 c0_2 l0_2 A0_3 c0_3 l0_3 A0_4 c0_4 l0_4 a1_0 A1_1 c1_1 l1_1 A1_2 c1_2 l1_2 A1_3 c1_3 l1_3 A1_4 c1_4 l1_4 xv _ _ _ (Kd.C_below H0.out.1 HB.out) H0.out.2 (Kd.C_below H1.out.1 HB.out) H1.out.2 (Kd.C_below H2.out.1 HB.out) H2.out.2 (Kd.C_below H3.out.1 HB.out) H3.out.2 (Kd.C_below H4.out.1 HB.out) H4.out.2 (Kd.C_below K1.out.1 HB.out) K1.out.2 (Kd.C_below K2.out.1 HB.out) K2.out.2 (Kd.C_below K3.out.1 HB.out) K3.out.2 (Kd.C_below K4.out.1 HB.out) K4.out.2 HLF.out).mono ?_; rintro e w' ⟨rfl, hb⟩; have n1 := Aside0.mk (below_step HB.out hb); have n2 := Aside0.mk (below_step HB2.out hb); clear HB HB2 hb; have HB := n1; have HB2 := n2; clear n1 n2))
                  all_goals (
                    go_wp2
                    go_ret
                    exact ⟨by rw [HRN.out]; rfl, HB.out⟩)
                · have hws := wordB_size l0_2 l1_3 xv HCN.out HLW.out hok
                  have HLF := Aside0.mk (show proofmarkref27_lit.f l0_0 l0_1 l0_2 l0_3 l0_4 a1_0 l1_1 l1_2 l1_3 l1_4 xv = some (wordB l0_2 l1_3 xv, true) by unfold proofmarkref27_lit.f; rw [if_pos hgd, hok]; rfl)
                  have HOK := Aside0.mk hok
                  have HSN := Aside0.mk (show (l2.take (k + 1)).map (wordB l0_2 l1_3) = (l2.take k).map (wordB l0_2 l1_3) ++ [wordB l0_2 l1_3 xv] by rw [List.take_add_one, List.getElem?_eq_getElem hlt, HXV.out, List.map_append]; rfl)
                  generalize wordB l0_2 l1_3 xv = s at hws HLF HSN
                  clear hok hgd hwx
                  rcases Nat.eq_zero_or_pos k with hz0 | hpos
                  · have z1 : (9223372036854775807 < cs.size + s.size) = False := eq_false (by omega)
                    have HCE := Aside0.mk (show cs = ⟨#[]⟩ by rw [ba_of HCS.out, hz0]; simp [joinB, Lib.join_nil])
                    have HS1 := Aside0.mk (show (l2.take (k + 1)).map (wordB l0_2 l1_3) = [s] by rw [HSN.out, hz0]; simp)
                    have hng : ¬ 0 < (k : Int) := by omega
                    have hd0 : decide (0 < (k : Int)) = false := decide_eq_false hng
                    have hd1 : decide (0 < k) = false := decide_eq_false (by omega)
                    clear hz0 hi0
                    clear hcz hws
                    go_wp2
                    have n1 := Aside0.mk (below_drew HB.out)
                    have n2 := Aside0.mk (below_drew HB2.out)
                    clear HB HB2
                    have HB := n1
                    have HB2 := n2
                    clear n1 n2
                    go_region_held3 (fun w' => w'.cell? ⟨w.heap.size, 0, none⟩ = some (.slice A0_0 l0_0.length c0_0) ∧ w'.cell? ⟨w.heap.size, 1, none⟩ = some (.slice A0_1 l0_1.length c0_1) ∧ w'.cell? ⟨w.heap.size, 2, none⟩ = some (.slice A0_2 l0_2.length c0_2) ∧ w'.cell? ⟨w.heap.size, 3, none⟩ = some (.slice A0_3 l0_3.length c0_3) ∧ w'.cell? ⟨w.heap.size, 4, none⟩ = some (.slice A0_4 l0_4.length c0_4) ∧ w'.cell? ⟨w.heap.size + 1, 0, none⟩ = some (.int .i64 a1_0) ∧ w'.cell? ⟨w.heap.size + 1, 1, none⟩ = some (.slice A1_1 l1_1.length c1_1) ∧ w'.cell? ⟨w.heap.size + 1, 2, none⟩ = some (.slice A1_2 l1_2.length c1_2) ∧ w'.cell? ⟨w.heap.size + 1, 3, none⟩ = some (.slice A1_3 l1_3.length c1_3) ∧ w'.cell? ⟨w.heap.size + 1, 4, none⟩ = some (.slice A1_4 l1_4.length c1_4) ∧ w'.cell? (adr.add k) = some (.int .i64 xv)) (exact TS.out _ HB.out HB2.out) (first | (go_at_call 49; refine (proofmarkref27_lit.calls A0_0 c0_0 l0_0 A0_1 c0_1 l0_1 A0_2 c0_2 l0_2 A0_3 c0_3 l0_3 A0_4 c0_4 l0_4 a1_0 A1_1 c1_1 l1_1 A1_2 c1_2 l1_2 A1_3 c1_3 l1_3 A1_4 c1_4 l1_4 xv _ _ _ (Kd.C_below H0.out.1 HB.out) H0.out.2 (Kd.C_below H1.out.1 HB.out) H1.out.2 (Kd.C_below H2.out.1 HB.out) H2.out.2 (Kd.C_below H3.out.1 HB.out) H3.out.2 (Kd.C_below H4.out.1 HB.out) H4.out.2 (Kd.C_below K1.out.1 HB.out) K1.out.2 (Kd.C_below K2.out.1 HB.out) K2.out.2 (Kd.C_below K3.out.1 HB.out) K3.out.2 (Kd.C_below K4.out.1 HB.out) K4.out.2 HLF.out).mono ?_; rintro e w' ⟨rfl, hb⟩; have n1 := Aside0.mk (below_step HB.out hb); have n2 := Aside0.mk (below_step HB2.out hb); clear HB HB2 hb; have HB := n1; have HB2 := n2; clear n1 n2))
                    all_goals (
                      go_wp2
                      go_roundg (l2.length - (k + 1))
                      case measure => have h8 := HQ.out; clear z1; omega
                      case rel => exact ⟨k + 1, _, rfl, by go_num, by omega, ⟨rfl⟩, ⟨by rw [HS1.out, HCE.out]; simp [joinB, joinR_one]⟩, ⟨all_take_snoc hlt HA.out (by rw [HXV.out]; exact HOK.out)⟩, HB2⟩)
                  · have z1 : (9223372036854775807 < cs.size + 3) = False := eq_false (by omega)
                    have z2 : (9223372036854775807 < cs.size + 3 + s.size) = False := eq_false (by omega)
                    clear hcz hws
                    go_wp2
                    have n1 := Aside0.mk (below_drew HB.out)
                    have n2 := Aside0.mk (below_drew HB2.out)
                    clear HB HB2
                    have HB := n1
                    have HB2 := n2
                    clear n1 n2
                    go_region_held3 (fun w' => w'.cell? ⟨w.heap.size, 0, none⟩ = some (.slice A0_0 l0_0.length c0_0) ∧ w'.cell? ⟨w.heap.size, 1, none⟩ = some (.slice A0_1 l0_1.length c0_1) ∧ w'.cell? ⟨w.heap.size, 2, none⟩ = some (.slice A0_2 l0_2.length c0_2) ∧ w'.cell? ⟨w.heap.size, 3, none⟩ = some (.slice A0_3 l0_3.length c0_3) ∧ w'.cell? ⟨w.heap.size, 4, none⟩ = some (.slice A0_4 l0_4.length c0_4) ∧ w'.cell? ⟨w.heap.size + 1, 0, none⟩ = some (.int .i64 a1_0) ∧ w'.cell? ⟨w.heap.size + 1, 1, none⟩ = some (.slice A1_1 l1_1.length c1_1) ∧ w'.cell? ⟨w.heap.size + 1, 2, none⟩ = some (.slice A1_2 l1_2.length c1_2) ∧ w'.cell? ⟨w.heap.size + 1, 3, none⟩ = some (.slice A1_3 l1_3.length c1_3) ∧ w'.cell? ⟨w.heap.size + 1, 4, none⟩ = some (.slice A1_4 l1_4.length c1_4) ∧ w'.cell? (adr.add k) = some (.int .i64 xv)) (exact TS.out _ HB.out HB2.out) (first | (go_at_call 49; refine (proofmarkref27_lit.calls A0_0 c0_0 l0_0 A0_1 c0_1 l0_1 A0_2 c0_2 l0_2 A0_3 c0_3 l0_3 A0_4 c0_4 l0_4 a1_0 A1_1 c1_1 l1_1 A1_2 c1_2 l1_2 A1_3 c1_3 l1_3 A1_4 c1_4 l1_4 xv _ _ _ (Kd.C_below H0.out.1 HB.out) H0.out.2 (Kd.C_below H1.out.1 HB.out) H1.out.2 (Kd.C_below H2.out.1 HB.out) H2.out.2 (Kd.C_below H3.out.1 HB.out) H3.out.2 (Kd.C_below H4.out.1 HB.out) H4.out.2 (Kd.C_below K1.out.1 HB.out) K1.out.2 (Kd.C_below K2.out.1 HB.out) K2.out.2 (Kd.C_below K3.out.1 HB.out) K3.out.2 (Kd.C_below K4.out.1 HB.out) K4.out.2 HLF.out).mono ?_; rintro e w' ⟨rfl, hb⟩; have n1 := Aside0.mk (below_step HB.out hb); have n2 := Aside0.mk (below_step HB2.out hb); clear HB HB2 hb; have HB := n1; have HB2 := n2; clear n1 n2))
                    all_goals (
                      go_wp2
                      go_roundg (l2.length - (k + 1))
                      case measure => have h8 := HQ.out; clear z1 z2; omega
                      case rel => exact ⟨k + 1, _, rfl, by go_num, by omega, ⟨rfl⟩, ⟨by
                        have hne : ((l2.take k).map (wordB l0_2 l1_3)).map (·.data.toList) ≠ [] := by
                          intro e
                          have := congrArg List.length e
                          simp only [List.length_map, List.length_take, List.length_nil] at this
                          omega
                        have hc := HCS.out
                        unfold joinB at hc ⊢
                        rw [HSN.out, List.map_append, List.map_cons, List.map_nil, joinR_snoc _ _ _ hne, ← hc]
                        unfold barB
                        simp⟩, ⟨all_take_snoc hlt HA.out (by rw [HXV.out]; exact HOK.out)⟩, HB2⟩)
              · obtain rfl : k = l2.length := by omega
                have HR := Aside0.mk (show r = cs by
                  have hall : l2.all (litOk l1_3.length) = true := by have := HA.out; rwa [List.take_length] at this
                  rw [HRF.out, if_pos hall]
                  exact (ba_of (by rw [HCS.out, List.take_length])).symm)
                go_wp2
                go_ret
                exact ⟨by rw [HR.out]; rfl, HB.out⟩
    · rw [if_neg hb2] at h; exact absurd h (by simp)
  · rw [if_neg hb] at h; exact absurd h (by simp)
end Go.Proofs.YtmfekngjhiofaaaGreatDoor.Q
