/-
  HAND: the document's Fits, row and Trace tell what lift.Trace tells.
-/
import Derived.Test.YtmfekngjhiofaaaGreatDoorQx0
import Derived.Test.YtmfekngjhiofaaaGreatDoorHTrace
import Derived.Test.YtmfekngjhiofaaaGreatDoorPRNum27
import Derived.Test.YtmfekngjhiofaaaGreatDoorPRNamed
set_option linter.unusedVariables false
set_option linter.unusedSimpArgs false
namespace Go.Proofs.YtmfekngjhiofaaaGreatDoor.Q
open Go.RowKit Go.Proofs.YtmfekngjhiofaaaGreatDoorW.PrintWords Go.Proofs.YtmfekngjhiofaaaGreatDoorW.PrintLast Go.Proofs.YtmfekngjhiofaaaGreatDoorW.PrintMore

def proofmarkref27_Fits.f (l0_0 : List (S125)) (l0_1 : List (S72)) (l0_2 : List (S114)) (l0_3 : List (S105)) (l0_4 : List (S72)) (l1 : List (List Int)) : Option (Bool) := some (l1.all (rowOk l0_1.length))
set_option maxHeartbeats 8000000 in
set_option maxRecDepth 100000 in
theorem proofmarkref27_Fits.calls (A0_0 : Option Addr) (c0_0 : Nat) (l0_0 : List (S125)) (A0_1 : Option Addr) (c0_1 : Nat) (l0_1 : List (S72)) (A0_2 : Option Addr) (c0_2 : Nat) (l0_2 : List (S114)) (A0_3 : Option Addr) (c0_3 : Nat) (l0_3 : List (S105)) (A0_4 : Option Addr) (c0_4 : Nat) (l0_4 : List (S72)) (A1 : Option Addr) (c1 : Nat) (l1 : List (List Int)) (r : Bool) (w : World) (hr0_0 : Kd.C k125 w A0_0 l0_0.length l0_0) (hc0_0 : l0_0.length ≤ c0_0) (hr0_1 : Kd.C k72 w A0_1 l0_1.length l0_1) (hc0_1 : l0_1.length ≤ c0_1) (hr0_2 : Kd.C k114 w A0_2 l0_2.length l0_2) (hc0_2 : l0_2.length ≤ c0_2) (hr0_3 : Kd.C k105 w A0_3 l0_3.length l0_3) (hc0_3 : l0_3.length ≤ c0_3) (hr0_4 : Kd.C k72 w A0_4 l0_4.length l0_4) (hc0_4 : l0_4.length ≤ c0_4) (hr1 : Kd.C (Kd.slice 3 (Kd.int .i64)) w A1 l1.length l1) (hc1 : l1.length ≤ c1) (h : proofmarkref27_Fits.f l0_0 l0_1 l0_2 l0_3 l0_4 l1 = some r) :
    Calls Tryz.prog 43 #[.agg #[.slice A0_0 l0_0.length c0_0, .slice A0_1 l0_1.length c0_1, .slice A0_2 l0_2.length c0_2, .slice A0_3 l0_3.length c0_3, .slice A0_4 l0_4.length c0_4], .slice A1 l1.length c1] w fun e w' => e = .returned (.bool r) ∧ Below w.heap.size w w' := by
  have HF := Aside0.mk (show l1.all (rowOk l0_1.length) = r from Option.some.inj h)
  have HR1 := Aside0.mk hr1
  have hlen : l1.length ≤ 9223372036854775807 := hr1.2.1
  have hlen2 : l0_1.length ≤ 9223372036854775807 := hr0_1.2.1
  clear h hr0_0 hc0_0 hr0_1 hc0_1 hr0_2 hc0_2 hr0_3 hc0_3 hr0_4 hc0_4 hr1 hc1
  have HO := Aside0.mk ((MapKept.heap_alloc w (.cells #[.slice A0_0 l0_0.length c0_0, .slice A0_1 l0_1.length c0_1, .slice A0_2 l0_2.length c0_2, .slice A0_3 l0_3.length c0_3, .slice A0_4 l0_4.length c0_4] 27)).1)
  have HBA := Aside0.mk (below_alloc (Below.refl w.heap.size w) (.cells #[.slice A0_0 l0_0.length c0_0, .slice A0_1 l0_1.length c0_1, .slice A0_2 l0_2.length c0_2, .slice A0_3 l0_3.length c0_3, .slice A0_4 l0_4.length c0_4] 27))
  go_enter Tryz.func43, Tryz.ntmps43
  go_wp2
  generalize w.alloc (.cells #[.slice A0_0 l0_0.length c0_0, .slice A0_1 l0_1.length c0_1, .slice A0_2 l0_2.length c0_2, .slice A0_3 l0_3.length c0_3, .slice A0_4 l0_4.length c0_4] 27) = w1 at HO HBA ⊢
  try simp only [Act.put, List.setIfInBounds_toArray, List.set_cons_succ, List.set_cons_zero]
  go_loopg [5] l1.length (fun kq v5 wr => ∃ k : Nat, v5 = .int .i64 k ∧ k ≤ l1.length ∧ Aside0 (kq = l1.length - k) ∧ Aside0 ((l1.take k).all (rowOk l0_1.length) = true) ∧ Aside0 (Below w1.heap.size w1 wr))
  case atStart => exact ⟨0, rfl, by omega, ⟨by omega⟩, ⟨rfl⟩, ⟨Below.refl _ _⟩⟩
  case round =>
    obtain ⟨k, rfl, hk, HQ, HA, HB⟩ := hrel
    have HBW := Aside0.mk (below_step HBA.out HB.out)
    by_cases hlt : k < l1.length
    · have hi0 : 0 ≤ (k : Int) := by omega
      have hi1 : (k : Int) < l1.length := by omega
      obtain ⟨ad, A, c, e, x0, hcl, hC⟩ := at_L12 HR1.out k hi0 hi1
      cases e
      have hto : (k : Int).toNat = k := by omega
      simp only [hto] at x0
      clear hto
      generalize hrow : rd_L12 l1 (k : Int) = row at x0 hcl hC
      have HROW := Aside0.mk (show l1[k] = row by rw [← hrow]; simp [rd_L12, hlt])
      have hrl : row.length ≤ 9223372036854775807 := hC.2.1
      have HC := Aside0.mk hC
      have HX0 := Aside0.mk x0
      clear hrow hC hcl
      have x0 := pw_cell_below HBW.out x0
      have x1 := Lib.cell_of_heap ((HB.out.block _ (Array.getElem?_eq_some_iff.1 HO.out).1).trans HO.out) 1
      by_cases hl : row.length = l0_1.length
      · have b0 : ((row.length : Int) == (l0_1.length : Int)) = true := beq_iff_eq.mpr (by omega)
        have b1 : ((row.length : Int) != (l0_1.length : Int)) = false := bne_eq_false_iff_eq.mpr (by omega)
        have b2 : (row.length == l0_1.length) = true := beq_iff_eq.mpr hl
        have HL := Aside0.mk hl
        clear hl
        go_wp2
        go_quiet (fail)
        go_wp2
        clear x0 x1 b0 b1 b2
        try simp only [Act.put, List.setIfInBounds_toArray, List.set_cons_succ, List.set_cons_zero]
        go_loopg [6] row.length (fun jq v6 wr2 => ∃ j : Nat, v6 = .int .i64 j ∧ j ≤ row.length ∧ Aside0 (jq = row.length - j) ∧ Aside0 ((row.take j).all inRange = true) ∧ Aside0 (Below w1.heap.size w1 wr2))
        case atStart => exact ⟨0, rfl, by omega, ⟨by omega⟩, ⟨rfl⟩, ⟨pw_below_drewN HB.out _⟩⟩
        case round =>
          clear HB HBW
          obtain ⟨j, rfl, hj, HJQ, HIA, HB⟩ := hrel
          have HBW := Aside0.mk (below_step HBA.out HB.out)
          have x0 := pw_cell_below HBW.out HX0.out
          by_cases hjl : j < row.length
          · have hj0 : 0 ≤ (j : Int) := by omega
            have hj1 : (j : Int) < row.length := by omega
            obtain ⟨adr, er, xr⟩ := Kd.at_int (Kd.C_below HC.out HBW.out) (j : Int) hj0 hj1
            cases er
            have hto : (j : Int).toNat = j := by omega
            simp only [hto] at xr
            clear hto
            generalize hxv : rd row (j : Int) = xv at xr
            have HXV := Aside0.mk (show row[j] = xv by rw [← hxv]; simp [rd, hjl])
            clear hxv
            have hcase : xv < 0 ∨ (¬ xv < 0 ∧ (65535 < xv ∨ ¬ 65535 < xv)) := by omega
            rcases hcase with h1 | ⟨h1, h2 | h2⟩
            all_goals first
              | (have hbad : inRange xv = false := by (simp only [inRange, Bool.and_eq_false_iff, decide_eq_false_iff_not]; omega)
                 have hr : r = false := by
                   rw [← HF.out]
                   refine all_take_false hlt ?_
                   rw [HROW.out]
                   unfold rowOk
                   rw [show row.all (fun x => decide (0 ≤ x) && decide (x ≤ 65535)) = false from all_take_false (p := inRange) hjl (by rw [HXV.out]; exact hbad), Bool.and_false]
                 have HRT := Aside0.mk hr
                 clear hbad hr
                 go_wp2
                 go_ret
                 exact ⟨by rw [HRT.out]; rfl, HBW.out⟩)
              | (have HIN := Aside0.mk (show inRange xv = true by (simp only [inRange, Bool.and_eq_true, decide_eq_true_eq]; omega))
                 go_wp2
                 go_roundg (row.length - (j + 1))
                 case measure => have h8 := HJQ.out; omega
                 case rel => exact ⟨j + 1, by go_num, by omega, ⟨rfl⟩, ⟨all_take_snoc hjl HIA.out (by rw [HXV.out]; exact HIN.out)⟩, HB⟩)
          · obtain rfl : j = row.length := by omega
            have HALL := Aside0.mk (show row.all inRange = true by have := HIA.out; rwa [List.take_length] at this)
            go_wp2
            go_roundg (l1.length - (k + 1))
            case measure => have h8 := HQ.out; omega
            case rel => exact ⟨k + 1, by go_num, by omega, ⟨rfl⟩, ⟨all_take_snoc hlt HA.out (by rw [HROW.out]; unfold rowOk; rw [HL.out, beq_self_eq_true, Bool.true_and]; exact HALL.out)⟩, HB⟩
      · have b0 : ((row.length : Int) == (l0_1.length : Int)) = false := beq_eq_false_iff_ne.mpr (by omega)
        have b1 : ((row.length : Int) != (l0_1.length : Int)) = true := bne_iff_ne.mpr (by omega)
        have b2 : (row.length == l0_1.length) = false := beq_eq_false_iff_ne.mpr hl
        have HRT := Aside0.mk (show r = false by rw [← HF.out]; exact all_take_false hlt (by rw [HROW.out]; unfold rowOk; rw [b2]; rfl))
        clear hl
        go_wp2
        go_quiet (fail)
        go_wp2
        go_ret
        exact ⟨by rw [HRT.out]; rfl, by first | exact HBW.out | exact pw_below_drewN HBW.out _⟩
    · obtain rfl : k = l1.length := by omega
      have HRT := Aside0.mk (show r = true by rw [← HF.out]; have := HA.out; rwa [List.take_length] at this)
      go_wp2
      go_ret
      exact ⟨by rw [HRT.out]; rfl, HBW.out⟩
def namesFit (l1 : List S72) : Bool := decide (l1.length ≤ 1000) && l1.all (fun x => decide (x.f0.size ≤ 1000))
def cellsFit (l2 : List S114) : Bool := decide (l2.length ≤ 1000) && l2.all (fun x => decide (x.f0.size ≤ 1000))
def proofmarkref27_row.f (l0_0 : List (S125)) (l0_1 : List (S72)) (l0_2 : List (S114)) (l0_3 : List (S105)) (l0_4 : List (S72)) (a1 : Int) (l2 : List Int) : Option (ByteArray) := if (0 ≤ a1 ∧ a1 ≤ 9223372036854775807) ∧ l2.length = l0_1.length ∧ namesFit l0_1 = true ∧ l2.all inRange = true then some ⟨(rowB (l0_1.map (·.f0)) a1.toNat l2).toArray⟩ else none
theorem ba_of {l : List UInt8} {b : ByteArray} (h : b.data.toList = l) : b = ⟨l.toArray⟩ := by subst h; rfl
set_option maxHeartbeats 8000000 in
set_option maxRecDepth 100000 in
theorem proofmarkref27_row.calls (A0_0 : Option Addr) (c0_0 : Nat) (l0_0 : List (S125)) (A0_1 : Option Addr) (c0_1 : Nat) (l0_1 : List (S72)) (A0_2 : Option Addr) (c0_2 : Nat) (l0_2 : List (S114)) (A0_3 : Option Addr) (c0_3 : Nat) (l0_3 : List (S105)) (A0_4 : Option Addr) (c0_4 : Nat) (l0_4 : List (S72)) (a1 : Int) (A2 : Option Addr) (c2 : Nat) (l2 : List Int) (r : ByteArray) (w : World) (hr0_0 : Kd.C k125 w A0_0 l0_0.length l0_0) (hc0_0 : l0_0.length ≤ c0_0) (hr0_1 : Kd.C k72 w A0_1 l0_1.length l0_1) (hc0_1 : l0_1.length ≤ c0_1) (hr0_2 : Kd.C k114 w A0_2 l0_2.length l0_2) (hc0_2 : l0_2.length ≤ c0_2) (hr0_3 : Kd.C k105 w A0_3 l0_3.length l0_3) (hc0_3 : l0_3.length ≤ c0_3) (hr0_4 : Kd.C k72 w A0_4 l0_4.length l0_4) (hc0_4 : l0_4.length ≤ c0_4) (hr2 : Kd.C (Kd.int .i64) w A2 l2.length l2) (hc2 : l2.length ≤ c2) (h : proofmarkref27_row.f l0_0 l0_1 l0_2 l0_3 l0_4 a1 l2 = some r) :
    Calls Tryz.prog 44 #[.agg #[.slice A0_0 l0_0.length c0_0, .slice A0_1 l0_1.length c0_1, .slice A0_2 l0_2.length c0_2, .slice A0_3 l0_3.length c0_3, .slice A0_4 l0_4.length c0_4], .int .i64 a1, .slice A2 l2.length c2] w fun e w' => e = .returned (.string r) ∧ Below w.heap.size w w' := by
  unfold proofmarkref27_row.f at h
  by_cases hb : (0 ≤ a1 ∧ a1 ≤ 9223372036854775807) ∧ l2.length = l0_1.length ∧ namesFit l0_1 = true ∧ l2.all inRange = true
  · rw [if_pos hb] at h
    have HF := Aside0.mk (Option.some.inj h)
    obtain ⟨⟨g0, g1⟩, g2, g3, g4⟩ := hb
    simp only [namesFit, Bool.and_eq_true, decide_eq_true_eq] at g3
    obtain ⟨f1, f2⟩ := g3
    have HNM := Aside0.mk (show ∀ s ∈ l0_1.map (·.f0), s.size ≤ 10000 from fun s hs => by
      obtain ⟨x, hx, rfl⟩ := List.mem_map.1 hs
      have := of_decide_eq_true (List.all_eq_true.1 f2 x hx)
      omega)
    have HLL := Aside0.mk g2
    have HAL := Aside0.mk g4
    have H1 := Aside0.mk hr0_1
    have HR2 := Aside0.mk hr2
    have hlen : l2.length ≤ 1000 := by omega
    obtain ⟨i, rfl⟩ : ∃ i : Nat, a1 = i := ⟨a1.toNat, by omega⟩
    rw [Int.toNat_natCast] at HF
    have HNF := Aside0.mk (num27_f (i : Int) g0 g1)
    have HFS := Aside0.mk (firstB_size i (by omega))
    have hs0 := HFS.out
    unfold firstB at hs0
    rw [ByteArray.size_append] at hs0
    have z0 : (9223372036854775807 < (numB (i : Int)).size + 1) = False := eq_false (by have : (⟨#[58]⟩ : ByteArray).size = 1 := rfl; omega)
    clear hs0 g2 g4 f2 hr2 hc2
    clear h hr0_0 hc0_0 hr0_1 hc0_1 hr0_2 hc0_2 hr0_3 hc0_3 hr0_4 hc0_4
    have HO := Aside0.mk ((MapKept.heap_alloc w (.cells #[.slice A0_0 l0_0.length c0_0, .slice A0_1 l0_1.length c0_1, .slice A0_2 l0_2.length c0_2, .slice A0_3 l0_3.length c0_3, .slice A0_4 l0_4.length c0_4] 27)).1)
    have HBA := Aside0.mk (below_alloc (Below.refl w.heap.size w) (.cells #[.slice A0_0 l0_0.length c0_0, .slice A0_1 l0_1.length c0_1, .slice A0_2 l0_2.length c0_2, .slice A0_3 l0_3.length c0_3, .slice A0_4 l0_4.length c0_4] 27))
    go_enter Tryz.func44, Tryz.ntmps44
    have HB := HBA
    go_wp2_with (first | (go_at_call 71; refine (proofmarkref27_Num.calls 30 i (numB i) _ HNF.out).mono ?_; rintro e w2 ⟨rfl, hb⟩; have n2 := Aside0.mk (below_step HB.out hb); have n3 := Aside0.mk ((hb.block _ (Array.getElem?_eq_some_iff.1 HO.out).1).trans HO.out); clear HB HO hb HBA; have HBA := n2; have HO := n3; clear n2 n3))
    clear z0
    try simp only [Act.put, List.setIfInBounds_toArray, List.set_cons_succ, List.set_cons_zero]
    go_loopg [7, 8] l2.length (fun jq v7 v8 wr => ∃ (j : Nat) (cs : ByteArray), v7 = .string cs ∧ v8 = .int .i64 j ∧ j ≤ l2.length ∧ Aside0 (jq = l2.length - j) ∧ Aside0 (cs.data.toList = (firstB i).data.toList ++ itemsB ((l0_1.map (·.f0)).take j) (l2.take j)) ∧ Aside0 (Below w2.heap.size w2 wr))
    case atStart => exact ⟨0, _, rfl, rfl, by omega, ⟨by omega⟩, ⟨by simp [itemsB, firstB]⟩, ⟨Below.refl _ _⟩⟩
    case round =>
      obtain ⟨j, cs, rfl, rfl, hj, HQ, HCS, HB⟩ := hrel
      have HBW := Aside0.mk (below_step HBA.out HB.out)
      by_cases hjl : j < l2.length
      · have hj0 : 0 ≤ (j : Int) := by omega
        have hj1 : (j : Int) < l2.length := by omega
        have hj2 : (j : Int) < l0_1.length := by have := HLL.out; omega
        obtain ⟨adr, er, xr⟩ := Kd.at_int HR2.out (j : Int) hj0 hj1
        cases er
        obtain ⟨adp, ep, y0, y1⟩ := at_T72 H1.out (j : Int) hj0 hj2
        cases ep
        have hto : (j : Int).toNat = j := by omega
        simp only [hto] at xr y0
        clear hto y1
        generalize hxv : rd l2 (j : Int) = xv at xr
        have HXV := Aside0.mk (show l2[j] = xv by rw [← hxv]; simp [rd, hjl])
        clear hxv
        generalize hnm : (rd_T72 l0_1 (j : Int)).f0 = nm at y0
        have hjp : j < (l0_1.map (·.f0)).length := by simp; omega
        have HNMJ := Aside0.mk (show (l0_1.map (·.f0))[j] = nm by rw [← hnm]; simp [rd_T72, show j < l0_1.length by omega])
        clear hnm
        have hin : inRange xv = true := by rw [← HXV.out]; exact List.all_eq_true.1 HAL.out _ (List.getElem_mem hjl)
        simp only [inRange, Bool.and_eq_true, decide_eq_true_eq] at hin
        obtain ⟨hx0, hx1⟩ := hin
        have hsz : nm.size ≤ 10000 := by have := HNM.out _ (List.getElem_mem hjp); rw [HNMJ.out] at this; exact this
        have HWX := Aside0.mk (num27_f xv hx0 (by omega))
        have s1 := numB_size xv (wf_of xv (by omega) (by omega))
        have hcz : cs.size ≤ 100300000 := by
          have a := itemsB_len ((l0_1.map (·.f0)).take j) (l2.take j) (fun s hs => HNM.out s (List.mem_of_mem_take hs)) (fun x hx => inRange_wf HAL.out x (List.mem_of_mem_take hx))
          have e : (l2.take j).length ≤ j := List.length_take_le _ _
          have e2 := HFS.out
          have e3 : cs.data.toList.length = cs.size := by simp
          rw [HCS.out, List.length_append] at e3
          have e4 : (firstB i).data.toList.length = (firstB i).size := by simp
          omega
        have z1 : (9223372036854775807 < cs.size + 1) = False := eq_false (by omega)
        have z2 : (9223372036854775807 < cs.size + 1 + nm.size) = False := eq_false (by omega)
        have z3 : (9223372036854775807 < cs.size + 1 + nm.size + 1) = False := eq_false (by omega)
        have z4 : (9223372036854775807 < cs.size + 1 + nm.size + 1 + (numB xv).size) = False := eq_false (by omega)
        have TS := Aside0.mk (show ∀ w' : World, Below w.heap.size w w' → Below w2.heap.size w2 w' → (w'.cell? ⟨w.heap.size, 1, none⟩ = some (.slice (some adp) l0_1.length c0_1) ∧ w'.cell? (adp.add (j * 2)) = some (.string nm) ∧ w'.cell? (adr.add j) = some (.int .i64 xv)) from fun w' q1 q2 =>
          ⟨Lib.cell_of_heap ((q2.block _ (Array.getElem?_eq_some_iff.1 HO.out).1).trans HO.out) 1, pw_cell_below q1 y0, pw_cell_below q1 xr⟩)
        clear y0 xr hsz hcz s1
        go_wp2
        have n2 := Aside0.mk (below_drew HB.out)
        clear HB
        have HB := n2
        clear n2
        go_region_held3 (fun w' => w'.cell? ⟨w.heap.size, 1, none⟩ = some (.slice (some adp) l0_1.length c0_1) ∧ w'.cell? (adp.add (j * 2)) = some (.string nm) ∧ w'.cell? (adr.add j) = some (.int .i64 xv)) (exact TS.out _ (below_step HBA.out HB.out) HB.out) (first | (go_at_call 71; refine (proofmarkref27_Num.calls 30 xv (numB xv) _ HWX.out).mono ?_; rintro e w' ⟨rfl, hb⟩; have n2 := Aside0.mk (below_step HB.out hb); clear HB hb; have HB := n2; clear n2))
        all_goals (
          go_wp2
          go_roundg (l2.length - (j + 1))
          case measure => have h8 := HQ.out; clear z1 z2 z3 z4; omega
          case rel =>
            exact ⟨j + 1, _, rfl, by go_num, by omega, ⟨rfl⟩, ⟨by
              rw [itemsB_snoc _ _ j hjp hjl, HNMJ.out, HXV.out, ← List.append_assoc, ← HCS.out]
              unfold pinB
              simp⟩, HB⟩)
      · obtain rfl : j = l2.length := by omega
        have hcz : cs.size ≤ 100300000 := by
          have a := itemsB_len ((l0_1.map (·.f0)).take l2.length) (l2.take l2.length) (fun s hs => HNM.out s (List.mem_of_mem_take hs)) (fun x hx => inRange_wf HAL.out x (List.mem_of_mem_take hx))
          have e : (l2.take l2.length).length ≤ l2.length := List.length_take_le _ _
          have e2 := HFS.out
          have e3 : cs.data.toList.length = cs.size := by simp
          rw [HCS.out, List.length_append] at e3
          have e4 : (firstB i).data.toList.length = (firstB i).size := by simp
          omega
        have z1 : (9223372036854775807 < cs.size + 1) = False := eq_false (by omega)
        clear hcz
        have HRE := Aside0.mk (show r = cs ++ (⟨#[10]⟩ : ByteArray) by
          rw [← HF.out]
          refine (ba_of ?_).symm
          rw [ByteArray.data_append, Array.toList_append, HCS.out, List.take_length, List.take_of_length_le (show (l0_1.map (·.f0)).length ≤ l2.length by rw [List.length_map, HLL.out]; exact Nat.le_refl _)]
          rfl)
        go_wp2
        go_ret
        exact ⟨by rw [HRE.out]; rfl, HBW.out⟩
  · rw [if_neg hb] at h; exact absurd h (by simp)
def proofmarkref27_Trace.f (l0_0 : List (S125)) (l0_1 : List (S72)) (l0_2 : List (S114)) (l0_3 : List (S105)) (l0_4 : List (S72)) (l1 : List (List Int)) : Option (ByteArray) := if namesFit l0_1 = true ∧ cellsFit l0_2 = true then lift_Trace.f l0_0 l0_1 l0_2 l0_3 l0_4 l1 else none
theorem namesFit_out {l1 : List S72} (h : namesFit l1 = true) : l1.length ≤ 1000 ∧ ∀ x ∈ l1, x.f0.size ≤ 1000 := by
  simp only [namesFit, Bool.and_eq_true, decide_eq_true_eq] at h
  exact ⟨h.1, fun x hx => of_decide_eq_true (List.all_eq_true.1 h.2 x hx)⟩
theorem cellsFit_out {l2 : List S114} (h : cellsFit l2 = true) : l2.length ≤ 1000 ∧ ∀ x ∈ l2, x.f0.size ≤ 1000 := by
  simp only [cellsFit, Bool.and_eq_true, decide_eq_true_eq] at h
  exact ⟨h.1, fun x hx => of_decide_eq_true (List.all_eq_true.1 h.2 x hx)⟩
set_option maxHeartbeats 8000000 in
set_option maxRecDepth 100000 in
theorem proofmarkref27_Trace.calls (A0_0 : Option Addr) (c0_0 : Nat) (l0_0 : List (S125)) (A0_1 : Option Addr) (c0_1 : Nat) (l0_1 : List (S72)) (A0_2 : Option Addr) (c0_2 : Nat) (l0_2 : List (S114)) (A0_3 : Option Addr) (c0_3 : Nat) (l0_3 : List (S105)) (A0_4 : Option Addr) (c0_4 : Nat) (l0_4 : List (S72)) (A1 : Option Addr) (c1 : Nat) (l1 : List (List Int)) (r : ByteArray) (w : World) (hr0_0 : Kd.C k125 w A0_0 l0_0.length l0_0) (hc0_0 : l0_0.length ≤ c0_0) (hr0_1 : Kd.C k72 w A0_1 l0_1.length l0_1) (hc0_1 : l0_1.length ≤ c0_1) (hr0_2 : Kd.C k114 w A0_2 l0_2.length l0_2) (hc0_2 : l0_2.length ≤ c0_2) (hr0_3 : Kd.C k105 w A0_3 l0_3.length l0_3) (hc0_3 : l0_3.length ≤ c0_3) (hr0_4 : Kd.C k72 w A0_4 l0_4.length l0_4) (hc0_4 : l0_4.length ≤ c0_4) (hr1 : Kd.C (Kd.slice 3 (Kd.int .i64)) w A1 l1.length l1) (hc1 : l1.length ≤ c1) (h : proofmarkref27_Trace.f l0_0 l0_1 l0_2 l0_3 l0_4 l1 = some r) :
    Calls Tryz.prog 12 #[.agg #[.slice A0_0 l0_0.length c0_0, .slice A0_1 l0_1.length c0_1, .slice A0_2 l0_2.length c0_2, .slice A0_3 l0_3.length c0_3, .slice A0_4 l0_4.length c0_4], .slice A1 l1.length c1] w fun e w' => e = .returned (.string r) ∧ Below w.heap.size w w' := by
  unfold proofmarkref27_Trace.f at h
  by_cases hb : namesFit l0_1 = true ∧ cellsFit l0_2 = true
  · rw [if_pos hb] at h
    have g1 := namesFit_out hb.1
    have g2 := cellsFit_out hb.2
    obtain ⟨kn, hkn⟩ := named_ex l0_0 l0_1 l0_2 l0_3 l0_4 g1.1 g1.2 g2.1 g2.2
    have HNF := Aside0.mk hkn
    have HNX := Aside0.mk hb.1
    have HNM := Aside0.mk (show ∀ s ∈ l0_1.map (·.f0), s.size ≤ 10000 from fun s hs => by
      obtain ⟨x, hx, rfl⟩ := List.mem_map.1 hs
      have := g1.2 x hx
      omega)
    have f1 : l0_1.length ≤ 1000 := g1.1
    unfold lift_Trace.f at h
    by_cases hb2 : shortC l0_2 = true ∧ traceFit l0_1 l1 = true
    · rw [if_pos hb2] at h
      have HF := Aside0.mk (Option.some.inj h)
      have f3 : l1.length ≤ 10000 := by have := hb2.2; simp only [traceFit, Bool.and_eq_true, decide_eq_true_eq] at this; exact this.2
      have H0 := Aside0.mk (And.intro hr0_0 hc0_0)
      have H1 := Aside0.mk (And.intro hr0_1 hc0_1)
      have H2 := Aside0.mk (And.intro hr0_2 hc0_2)
      have H3 := Aside0.mk (And.intro hr0_3 hc0_3)
      have H4 := Aside0.mk (And.intro hr0_4 hc0_4)
      have HR1 := Aside0.mk (And.intro hr1 hc1)
      clear hb hb2 hkn g1 g2 hr1 hc1
      clear h hr0_0 hc0_0 hr0_1 hc0_1 hr0_2 hc0_2 hr0_3 hc0_3 hr0_4 hc0_4
      have HO := Aside0.mk ((MapKept.heap_alloc w (.cells #[.slice A0_0 l0_0.length c0_0, .slice A0_1 l0_1.length c0_1, .slice A0_2 l0_2.length c0_2, .slice A0_3 l0_3.length c0_3, .slice A0_4 l0_4.length c0_4] 27)).1)
      have HB := Aside0.mk (below_alloc (Below.refl w.heap.size w) (.cells #[.slice A0_0 l0_0.length c0_0, .slice A0_1 l0_1.length c0_1, .slice A0_2 l0_2.length c0_2, .slice A0_3 l0_3.length c0_3, .slice A0_4 l0_4.length c0_4] 27))
      cases hU : (unlikeB (namesP l0_1) && unlikeB (namesC l0_2))
      · rw [hU] at HNF
        have HRE := Aside0.mk (show r = ⟨#[]⟩ by rw [← HF.out]; unfold traceB; rw [if_neg (by rw [hU]; simp)])
        clear hU
        go_enter Tryz.func12, Tryz.ntmps12
        go_wp2_with (first | (go_at_call 39; refine (proofmarkref27_Named.calls kn A0_0 c0_0 l0_0 A0_1 c0_1 l0_1 A0_2 c0_2 l0_2 A0_3 c0_3 l0_3 A0_4 c0_4 l0_4 _ _ (Kd.C_below H0.out.1 HB.out) H0.out.2 (Kd.C_below H1.out.1 HB.out) H1.out.2 (Kd.C_below H2.out.1 HB.out) H2.out.2 (Kd.C_below H3.out.1 HB.out) H3.out.2 (Kd.C_below H4.out.1 HB.out) H4.out.2 HNF.out).mono ?_; rintro e w2 ⟨rfl, hb⟩; have n2 := Aside0.mk (below_step HB.out hb); have n3 := Aside0.mk ((hb.block _ (Array.getElem?_eq_some_iff.1 HO.out).1).trans HO.out); clear HB HO hb; have HB := n2; have HO := n3; clear n2 n3; have m0 := Lib.cell_of_heap HO.out 0; have m1 := Lib.cell_of_heap HO.out 1; have m2 := Lib.cell_of_heap HO.out 2; have m3 := Lib.cell_of_heap HO.out 3; have m4 := Lib.cell_of_heap HO.out 4))
        go_ret
        exact ⟨by rw [HRE.out]; rfl, HB.out⟩
      · rw [hU] at HNF
        cases hA : l1.all (rowOk l0_1.length)
        · have HFF := Aside0.mk (show proofmarkref27_Fits.f l0_0 l0_1 l0_2 l0_3 l0_4 l1 = some false by unfold proofmarkref27_Fits.f; rw [hA])
          have HRE := Aside0.mk (show r = ⟨#[]⟩ by rw [← HF.out, traceB_bad hA])
          clear hU hA
          go_enter Tryz.func12, Tryz.ntmps12
          go_wp2_with (first | (go_at_call 39; refine (proofmarkref27_Named.calls kn A0_0 c0_0 l0_0 A0_1 c0_1 l0_1 A0_2 c0_2 l0_2 A0_3 c0_3 l0_3 A0_4 c0_4 l0_4 _ _ (Kd.C_below H0.out.1 HB.out) H0.out.2 (Kd.C_below H1.out.1 HB.out) H1.out.2 (Kd.C_below H2.out.1 HB.out) H2.out.2 (Kd.C_below H3.out.1 HB.out) H3.out.2 (Kd.C_below H4.out.1 HB.out) H4.out.2 HNF.out).mono ?_; rintro e w2 ⟨rfl, hb⟩; have n2 := Aside0.mk (below_step HB.out hb); have n3 := Aside0.mk ((hb.block _ (Array.getElem?_eq_some_iff.1 HO.out).1).trans HO.out); clear HB HO hb; have HB := n2; have HO := n3; clear n2 n3; have m0 := Lib.cell_of_heap HO.out 0; have m1 := Lib.cell_of_heap HO.out 1; have m2 := Lib.cell_of_heap HO.out 2; have m3 := Lib.cell_of_heap HO.out 3; have m4 := Lib.cell_of_heap HO.out 4) | (go_at_call 43; refine (proofmarkref27_Fits.calls A0_0 c0_0 l0_0 A0_1 c0_1 l0_1 A0_2 c0_2 l0_2 A0_3 c0_3 l0_3 A0_4 c0_4 l0_4 A1 c1 l1 _ _ (Kd.C_below H0.out.1 HB.out) H0.out.2 (Kd.C_below H1.out.1 HB.out) H1.out.2 (Kd.C_below H2.out.1 HB.out) H2.out.2 (Kd.C_below H3.out.1 HB.out) H3.out.2 (Kd.C_below H4.out.1 HB.out) H4.out.2 (Kd.C_below HR1.out.1 HB.out) HR1.out.2 HFF.out).mono ?_; rintro e w2 ⟨rfl, hb⟩; have n2 := Aside0.mk (below_step HB.out hb); have n3 := Aside0.mk ((hb.block _ (Array.getElem?_eq_some_iff.1 HO.out).1).trans HO.out); clear HB HO hb; have HB := n2; have HO := n3; clear n2 n3; have m0 := Lib.cell_of_heap HO.out 0; have m1 := Lib.cell_of_heap HO.out 1; have m2 := Lib.cell_of_heap HO.out 2; have m3 := Lib.cell_of_heap HO.out 3; have m4 := Lib.cell_of_heap HO.out 4))
          go_ret
          exact ⟨by rw [HRE.out]; rfl, HB.out⟩
        · have HFF := Aside0.mk (show proofmarkref27_Fits.f l0_0 l0_1 l0_2 l0_3 l0_4 l1 = some true by unfold proofmarkref27_Fits.f; rw [hA])
          have HRE := Aside0.mk (show r = ⟨(rowsB (l0_1.map (·.f0)) 0 l1).toArray⟩ by rw [← HF.out]; unfold traceB; rw [if_pos ⟨hU, hA⟩])
          have HALL := Aside0.mk hA
          clear hU hA
          go_enter Tryz.func12, Tryz.ntmps12
          go_wp2_with (first | (go_at_call 39; refine (proofmarkref27_Named.calls kn A0_0 c0_0 l0_0 A0_1 c0_1 l0_1 A0_2 c0_2 l0_2 A0_3 c0_3 l0_3 A0_4 c0_4 l0_4 _ _ (Kd.C_below H0.out.1 HB.out) H0.out.2 (Kd.C_below H1.out.1 HB.out) H1.out.2 (Kd.C_below H2.out.1 HB.out) H2.out.2 (Kd.C_below H3.out.1 HB.out) H3.out.2 (Kd.C_below H4.out.1 HB.out) H4.out.2 HNF.out).mono ?_; rintro e w2 ⟨rfl, hb⟩; have n2 := Aside0.mk (below_step HB.out hb); have n3 := Aside0.mk ((hb.block _ (Array.getElem?_eq_some_iff.1 HO.out).1).trans HO.out); clear HB HO hb; have HB := n2; have HO := n3; clear n2 n3; have m0 := Lib.cell_of_heap HO.out 0; have m1 := Lib.cell_of_heap HO.out 1; have m2 := Lib.cell_of_heap HO.out 2; have m3 := Lib.cell_of_heap HO.out 3; have m4 := Lib.cell_of_heap HO.out 4) | (go_at_call 43; refine (proofmarkref27_Fits.calls A0_0 c0_0 l0_0 A0_1 c0_1 l0_1 A0_2 c0_2 l0_2 A0_3 c0_3 l0_3 A0_4 c0_4 l0_4 A1 c1 l1 _ _ (Kd.C_below H0.out.1 HB.out) H0.out.2 (Kd.C_below H1.out.1 HB.out) H1.out.2 (Kd.C_below H2.out.1 HB.out) H2.out.2 (Kd.C_below H3.out.1 HB.out) H3.out.2 (Kd.C_below H4.out.1 HB.out) H4.out.2 (Kd.C_below HR1.out.1 HB.out) HR1.out.2 HFF.out).mono ?_; rintro e w2 ⟨rfl, hb⟩; have n2 := Aside0.mk (below_step HB.out hb); have n3 := Aside0.mk ((hb.block _ (Array.getElem?_eq_some_iff.1 HO.out).1).trans HO.out); clear HB HO hb; have HB := n2; have HO := n3; clear n2 n3; have m0 := Lib.cell_of_heap HO.out 0; have m1 := Lib.cell_of_heap HO.out 1; have m2 := Lib.cell_of_heap HO.out 2; have m3 := Lib.cell_of_heap HO.out 3; have m4 := Lib.cell_of_heap HO.out 4))
          have HBA := HB
          clear HB
          try clear m0 m1 m2 m3 m4
          rename World => w3
          try simp only [Act.put, List.setIfInBounds_toArray, List.set_cons_succ, List.set_cons_zero]
          go_loopg [5, 6] l1.length (fun kq v5 v6 wr => ∃ (k : Nat) (cs : ByteArray), v5 = .string cs ∧ v6 = .int .i64 k ∧ k ≤ l1.length ∧ Aside0 (kq = l1.length - k) ∧ Aside0 (cs.data.toList = rowsB (l0_1.map (·.f0)) 0 (l1.take k)) ∧ Aside0 (Below w3.heap.size w3 wr))
          case atStart => exact ⟨0, _, rfl, rfl, by omega, ⟨by omega⟩, ⟨by simp [rowsB]⟩, ⟨Below.refl _ _⟩⟩
          case round =>
            obtain ⟨k, cs, rfl, rfl, hk, HQ, HCS, HB2⟩ := hrel
            have HB := Aside0.mk (below_step HBA.out HB2.out)
            by_cases hlt : k < l1.length
            · have hi0 : 0 ≤ (k : Int) := by omega
              have hi1 : (k : Int) < l1.length := by omega
              obtain ⟨ad, A, c, e, x0, hcl, hC⟩ := at_L12 HR1.out.1 k hi0 hi1
              cases e
              have hto : (k : Int).toNat = k := by omega
              simp only [hto] at x0
              clear hto
              generalize hrow : rd_L12 l1 (k : Int) = row at x0 hcl hC
              have HROW := Aside0.mk (show l1[k] = row by rw [← hrow]; simp [rd_L12, hlt])
              have HC := Aside0.mk (And.intro hC hcl)
              clear hrow hC hcl
              have hok : rowOk l0_1.length row = true := by rw [← HROW.out]; exact List.all_eq_true.1 HALL.out _ (List.getElem_mem hlt)
              simp only [rowOk, Bool.and_eq_true, beq_iff_eq] at hok
              have HRF := Aside0.mk (show proofmarkref27_row.f l0_0 l0_1 l0_2 l0_3 l0_4 (k : Int) row = some ⟨(rowB (l0_1.map (·.f0)) k row).toArray⟩ by
                unfold proofmarkref27_row.f
                rw [if_pos ⟨⟨hi0, by omega⟩, hok.1, HNX.out, hok.2⟩, Int.toNat_natCast])
              have hz1 := rowB_len (l0_1.map (·.f0)) k row HNM.out (by omega) (inRange_wf hok.2) (by omega)
              have HRB := Aside0.mk (show (⟨(rowB (l0_1.map (·.f0)) k row).toArray⟩ : ByteArray).data.toList = rowB (l0_1.map (·.f0)) k row by simp)
              have hz2 : (⟨(rowB (l0_1.map (·.f0)) k row).toArray⟩ : ByteArray).size ≤ 100230023 := by
                show (rowB (l0_1.map (·.f0)) k row).toArray.size ≤ _
                simpa using hz1
              generalize (⟨(rowB (l0_1.map (·.f0)) k row).toArray⟩ : ByteArray) = rt at HRF HRB hz2
              have hcz : cs.size ≤ 1002300230000 := by
                have := rowsB_len (l0_1.map (·.f0)) HNM.out (l1.take k) 0 (by simp; omega) (fun x hx => rows_wf HALL.out (by omega) x (List.mem_of_mem_take hx))
                have e : (l1.take k).length ≤ k := List.length_take_le _ _
                have := Nat.mul_le_mul_left 100230023 e
                have e3 : cs.data.toList.length = cs.size := by simp
                rw [HCS.out] at e3
                omega
              have z1 : (9223372036854775807 < cs.size + rt.size) = False := eq_false (by omega)
              have TS := Aside0.mk (show ∀ w' : World, Below w.heap.size w w' → Below w3.heap.size w3 w' → (w'.cell? ⟨w.heap.size, 0, none⟩ = some (.slice A0_0 l0_0.length c0_0) ∧ w'.cell? ⟨w.heap.size, 1, none⟩ = some (.slice A0_1 l0_1.length c0_1) ∧ w'.cell? ⟨w.heap.size, 2, none⟩ = some (.slice A0_2 l0_2.length c0_2) ∧ w'.cell? ⟨w.heap.size, 3, none⟩ = some (.slice A0_3 l0_3.length c0_3) ∧ w'.cell? ⟨w.heap.size, 4, none⟩ = some (.slice A0_4 l0_4.length c0_4) ∧ w'.cell? (ad.add k) = some (.slice A row.length c)) from fun w' q1 q2 =>
                ⟨Lib.cell_of_heap ((q2.block _ (Array.getElem?_eq_some_iff.1 HO.out).1).trans HO.out) 0, Lib.cell_of_heap ((q2.block _ (Array.getElem?_eq_some_iff.1 HO.out).1).trans HO.out) 1, Lib.cell_of_heap ((q2.block _ (Array.getElem?_eq_some_iff.1 HO.out).1).trans HO.out) 2, Lib.cell_of_heap ((q2.block _ (Array.getElem?_eq_some_iff.1 HO.out).1).trans HO.out) 3, Lib.cell_of_heap ((q2.block _ (Array.getElem?_eq_some_iff.1 HO.out).1).trans HO.out) 4, pw_cell_below q1 x0⟩)
              clear x0 hok hz1 hz2 hcz
              go_wp2
              have n1 := Aside0.mk (below_drew HB.out)
              have n2 := Aside0.mk (below_drew HB2.out)
              clear HB HB2
              have HB := n1
              have HB2 := n2
              clear n1 n2
              go_region_held3 (fun w' => w'.cell? ⟨w.heap.size, 0, none⟩ = some (.slice A0_0 l0_0.length c0_0) ∧ w'.cell? ⟨w.heap.size, 1, none⟩ = some (.slice A0_1 l0_1.length c0_1) ∧ w'.cell? ⟨w.heap.size, 2, none⟩ = some (.slice A0_2 l0_2.length c0_2) ∧ w'.cell? ⟨w.heap.size, 3, none⟩ = some (.slice A0_3 l0_3.length c0_3) ∧ w'.cell? ⟨w.heap.size, 4, none⟩ = some (.slice A0_4 l0_4.length c0_4) ∧ w'.cell? (ad.add k) = some (.slice A row.length c)) (exact TS.out _ HB.out HB2.out) (first | (go_at_call 44; refine (proofmarkref27_row.calls A0_0 c0_0 l0_0 A0_1 c0_1 l0_1 A0_2 c0_2 l0_2 A0_3 c0_3 l0_3 A0_4 c0_4 l0_4 k A c row rt _ (Kd.C_below H0.out.1 HB.out) H0.out.2 (Kd.C_below H1.out.1 HB.out) H1.out.2 (Kd.C_below H2.out.1 HB.out) H2.out.2 (Kd.C_below H3.out.1 HB.out) H3.out.2 (Kd.C_below H4.out.1 HB.out) H4.out.2 (Kd.C_below HC.out.1 HB.out) HC.out.2 HRF.out).mono ?_; rintro e w' ⟨rfl, hb⟩; have n1 := Aside0.mk (below_step HB.out hb); have n2 := Aside0.mk (below_step HB2.out hb); clear HB HB2 hb; have HB := n1; have HB2 := n2; clear n1 n2))
              all_goals (
                go_wp2
                go_roundg (l1.length - (k + 1))
                case measure => have h8 := HQ.out; clear z1; omega
                case rel => exact ⟨k + 1, _, rfl, by go_num, by omega, ⟨rfl⟩, ⟨by rw [rowsB_snoc _ l1 0 k hlt, HROW.out, Nat.zero_add, ← HCS.out, ← HRB.out]; simp⟩, HB2⟩)
            · obtain rfl : k = l1.length := by omega
              have HR := Aside0.mk (show r = cs by rw [HRE.out]; exact (ba_of (by rw [HCS.out, List.take_length])).symm)
              go_wp2
              go_ret
              exact ⟨by rw [HR.out]; rfl, HB.out⟩
    · rw [if_neg hb2] at h; exact absurd h (by simp)
  · rw [if_neg hb] at h; exact absurd h (by simp)
end Go.Proofs.YtmfekngjhiofaaaGreatDoor.Q
