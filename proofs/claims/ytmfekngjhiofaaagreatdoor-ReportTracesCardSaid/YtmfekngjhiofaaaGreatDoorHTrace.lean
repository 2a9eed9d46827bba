/-
  HAND: lift.Trace.
-/
import Derived.Test.YtmfekngjhiofaaaGreatDoorQx0
import Derived.Test.YtmfekngjhiofaaaGreatDoorHNamed
import Derived.Test.YtmfekngjhiofaaaGreatDoorHBuilder
import Derived.Test.YtmfekngjhiofaaaGreatDoorHBase
set_option linter.unusedVariables false
set_option linter.unusedSimpArgs false
namespace Go.Proofs.YtmfekngjhiofaaaGreatDoor.Q
open Go.RowKit Go.Proofs.YtmfekngjhiofaaaGreatDoorW.PrintWords Go.Proofs.YtmfekngjhiofaaaGreatDoorW.PrintLast Go.Proofs.YtmfekngjhiofaaaGreatDoorW.PrintMore

theorem write_calls (T : TypeId) (hT : liesAt Tryz.prog Tryz.prog.depth T (2 / Tryz.prog.cellsOf T) 0 83 1 = true) (hne5 : T ≠ 5) (B b : Nat) (l : List UInt8) (s : ByteArray) (w : World) (h : Lib.IsBuilder T 5 B b (Lib.byteCells l) w) (hlen : l.length + s.size ≤ 140737488355328) (hBw : B ≤ w.heap.size) :
    Calls Tryz.prog 41 #[.pointer (some ⟨b, 0, none⟩), .string s] w fun e w' => e = .returned (.tuple #[.int .i64 s.size, .nilIface]) ∧ (Lib.IsBuilder T 5 B b (Lib.byteCells (l ++ s.data.toList)) w' ∧ Below B w w' ∧ Lib.OthersKept 5 (some b) w w') :=
  (WriteString T hT hne5 B b (Lib.byteCells l) s w h (by rw [Lib.byteCells_length]; exact hlen) hBw).mono fun e w' ⟨h1, h2, h3, h4⟩ => ⟨h1, .inr (by
    have : Lib.byteCells l ++ Lib.strCells s = Lib.byteCells (l ++ s.data.toList) := by rw [Lib.strCells_eq]; simp [Lib.byteCells]
    rw [← this]; exact h2), h3, h4⟩
/-! ### the text -/
def pinB (nm : ByteArray) (x : Int) : ByteArray := (((⟨#[32]⟩ : ByteArray) ++ nm) ++ (⟨#[61]⟩ : ByteArray)) ++ numB x
def itemsB (names : List ByteArray) (row : List Int) : List UInt8 := (List.zipWith (fun nm x => (pinB nm x).data.toList) names row).flatten
def firstB (k : Nat) : ByteArray := numB (k : Int) ++ (⟨#[58]⟩ : ByteArray)
def rowB (names : List ByteArray) (k : Nat) (row : List Int) : List UInt8 := (firstB k).data.toList ++ itemsB names row ++ [10]
def rowsB (names : List ByteArray) : Nat → List (List Int) → List UInt8
  | _, [] => []
  | k, r :: rest => rowB names k r ++ rowsB names (k + 1) rest
def rowOk (n : Nat) (row : List Int) : Bool := row.length == n && row.all (fun x => decide (0 ≤ x) && decide (x ≤ 65535))
def traceB (l1 : List S72) (l2 : List S114) (tr : List (List Int)) : List UInt8 :=
  if (unlikeB (namesP l1) && unlikeB (namesC l2)) = true ∧ tr.all (rowOk l1.length) = true then rowsB (l1.map (·.f0)) 0 tr else []
theorem rowsB_snoc (names : List ByteArray) : ∀ (tr : List (List Int)) (i k : Nat) (hk : k < tr.length), rowsB names i (tr.take (k + 1)) = rowsB names i (tr.take k) ++ rowB names (i + k) tr[k]
  | [], _, _, hk => by simp at hk
  | r :: rest, i, 0, _ => by simp [rowsB]
  | r :: rest, i, k + 1, hk => by
    have ih := rowsB_snoc names rest (i + 1) k (by simpa using hk)
    simp only [List.take_succ_cons, rowsB, List.getElem_cons_succ, ih, List.append_assoc]
    rw [show i + 1 + k = i + (k + 1) by omega]
theorem itemsB_snoc (names : List ByteArray) (row : List Int) (j : Nat) (h1 : j < names.length) (h2 : j < row.length) : itemsB (names.take (j + 1)) (row.take (j + 1)) = itemsB (names.take j) (row.take j) ++ (pinB names[j] row[j]).data.toList := by
  unfold itemsB
  rw [List.take_add_one, List.take_add_one, List.getElem?_eq_getElem h1, List.getElem?_eq_getElem h2, Option.toList_some, Option.toList_some, List.zipWith_append (by simp; omega)]
  simp
theorem pinB_size (nm : ByteArray) (x : Int) (h : nm.size ≤ 10000) (hx : (Lit.int .i64 x).wf = true) : (pinB nm x).size ≤ 10023 := by
  have := numB_size x hx
  unfold pinB
  simp only [ByteArray.size_append]
  have e1 : (⟨#[32]⟩ : ByteArray).size = 1 := rfl
  have e2 : (⟨#[61]⟩ : ByteArray).size = 1 := rfl
  omega
theorem itemsB_len : ∀ (names : List ByteArray) (row : List Int), (∀ s ∈ names, s.size ≤ 10000) → (∀ x ∈ row, (Lit.int .i64 x).wf = true) → (itemsB names row).length ≤ 10023 * row.length
  | [], _, _, _ => by simp [itemsB]
  | _ :: _, [], _, _ => by simp [itemsB]
  | s :: names, x :: row, h1, h2 => by
    have ih := itemsB_len names row (fun a ha => h1 a (List.mem_cons_of_mem _ ha)) (fun a ha => h2 a (List.mem_cons_of_mem _ ha))
    have h3 := pinB_size s x (h1 s List.mem_cons_self) (h2 x List.mem_cons_self)
    have e : (pinB s x).data.toList.length = (pinB s x).size := by simp
    simp only [itemsB, List.zipWith_cons_cons, List.flatten_cons, List.length_append, List.length_cons] at ih ⊢
    omega
theorem wf_nat (k : Nat) (h : k ≤ 9223372036854775807) : (Lit.int .i64 (k : Int)).wf = true := by
  have h1 : IntKind.i64.min ≤ (k : Int) ∧ (k : Int) ≤ 9223372036854775807 := by rw [show IntKind.i64.min = -9223372036854775808 by decide]; omega
  simpa [Lit.wf] using h1
theorem wf_of (x : Int) (h1 : -9223372036854775808 ≤ x) (h2 : x ≤ 9223372036854775807) : (Lit.int .i64 x).wf = true := by
  have h1 : IntKind.i64.min ≤ x ∧ x ≤ 9223372036854775807 := by rw [show IntKind.i64.min = -9223372036854775808 by decide]; omega
  simpa [Lit.wf] using h1
theorem firstB_size (k : Nat) (h : k ≤ 9223372036854775807) : (firstB k).size ≤ 22 := by
  have := numB_size (k : Int) (wf_nat k h)
  unfold firstB
  simp only [ByteArray.size_append]
  have e1 : (⟨#[58]⟩ : ByteArray).size = 1 := rfl
  omega
theorem rowB_len (names : List ByteArray) (k : Nat) (row : List Int) (h1 : ∀ s ∈ names, s.size ≤ 10000) (h2 : row.length ≤ 10000) (h3 : ∀ x ∈ row, (Lit.int .i64 x).wf = true) (hk : k ≤ 9223372036854775807) : (rowB names k row).length ≤ 100230023 := by
  have a := itemsB_len names row h1 h3
  have b := firstB_size k hk
  have e : (firstB k).data.toList.length = (firstB k).size := by simp
  unfold rowB
  simp only [List.length_append, List.length_cons, List.length_nil]
  omega
theorem rowsB_len (names : List ByteArray) (h1 : ∀ s ∈ names, s.size ≤ 10000) : ∀ (tr : List (List Int)) (i : Nat), i + tr.length ≤ 9223372036854775807 → (∀ r ∈ tr, r.length ≤ 10000 ∧ ∀ x ∈ r, (Lit.int .i64 x).wf = true) → (rowsB names i tr).length ≤ 100230023 * tr.length
  | [], _, _, _ => by simp [rowsB]
  | r :: rest, i, hi, h => by
    have ih := rowsB_len names h1 rest (i + 1) (by simp at hi; omega) (fun a ha => h a (List.mem_cons_of_mem _ ha))
    have h3 := rowB_len names i r h1 (h r List.mem_cons_self).1 (h r List.mem_cons_self).2 (by simp at hi; omega)
    simp only [rowsB, List.length_append, List.length_cons]
    omega
def traceFit (l1 : List S72) (tr : List (List Int)) : Bool := decide (l1.length ≤ 10000) && l1.all (fun x => decide (x.f0.size ≤ 10000)) && decide (tr.length ≤ 10000)
def lift_Trace.f (l0_0 : List S125) (l0_1 : List S72) (l0_2 : List S114) (l0_3 : List S105) (l0_4 : List S72) (l1 : List (List Int)) : Option (ByteArray) :=
  if shortC l0_2 = true ∧ traceFit l0_1 l1 = true then some ⟨(traceB l0_1 l0_2 l1).toArray⟩ else none
def inRange (x : Int) : Bool := decide (0 ≤ x) && decide (x ≤ 65535)
theorem inRange_wf {l : List Int} (h : l.all inRange = true) : ∀ x ∈ l, (Lit.int .i64 x).wf = true := fun x hx => by
  have := List.all_eq_true.1 h x hx
  simp only [inRange, Bool.and_eq_true, decide_eq_true_eq] at this
  exact wf_of x (by omega) (by omega)
theorem rows_wf {n : Nat} {tr : List (List Int)} (h : tr.all (rowOk n) = true) (hn : n ≤ 10000) : ∀ r ∈ tr, r.length ≤ 10000 ∧ ∀ x ∈ r, (Lit.int .i64 x).wf = true := fun r hr => by
  have := List.all_eq_true.1 h r hr
  simp only [rowOk, Bool.and_eq_true, beq_iff_eq] at this
  exact ⟨by omega, inRange_wf this.2⟩
theorem all_take_false {α : Type} {p : α → Bool} {l : List α} {k : Nat} (hk : k < l.length) (h : p l[k] = false) : l.all p = false := by
  cases hq : l.all p with
  | false => rfl
  | true => rw [List.all_eq_true.1 hq _ (List.getElem_mem hk)] at h; exact absurd h (by decide)
theorem all_take_snoc {α : Type} {p : α → Bool} {l : List α} {k : Nat} (hk : k < l.length) (h1 : (l.take k).all p = true) (h : p l[k] = true) : (l.take (k + 1)).all p = true := by
  rw [List.take_add_one, List.getElem?_eq_getElem hk, List.all_append, h1]
  simp [h]
theorem traceB_bad {l1 : List S72} {l2 : List S114} {tr : List (List Int)} (h : tr.all (rowOk l1.length) = false) : traceB l1 l2 tr = [] := by
  unfold traceB; rw [if_neg (by rw [h]; simp)]
set_option maxHeartbeats 16000000 in
set_option maxRecDepth 100000 in
theorem lift_Trace.calls (A0_0 : Option Addr) (c0_0 : Nat) (l0_0 : List S125) (A0_1 : Option Addr) (c0_1 : Nat) (l0_1 : List S72) (A0_2 : Option Addr) (c0_2 : Nat) (l0_2 : List S114) (A0_3 : Option Addr) (c0_3 : Nat) (l0_3 : List S105) (A0_4 : Option Addr) (c0_4 : Nat) (l0_4 : List S72) (A1 : Option Addr) (c1 : Nat) (l1 : List (List Int)) (r : ByteArray) (w : World) (hG : Tab w) (hr0_0 : Kd.C k125 w A0_0 l0_0.length l0_0) (hc0_0 : l0_0.length ≤ c0_0) (hr0_1 : Kd.C k72 w A0_1 l0_1.length l0_1) (hc0_1 : l0_1.length ≤ c0_1) (hr0_2 : Kd.C k114 w A0_2 l0_2.length l0_2) (hc0_2 : l0_2.length ≤ c0_2) (hr0_3 : Kd.C k105 w A0_3 l0_3.length l0_3) (hc0_3 : l0_3.length ≤ c0_3) (hr0_4 : Kd.C k72 w A0_4 l0_4.length l0_4) (hc0_4 : l0_4.length ≤ c0_4) (hr1 : Kd.C (Kd.slice 3 (Kd.int .i64)) w A1 l1.length l1) (hc1 : l1.length ≤ c1) (h : lift_Trace.f l0_0 l0_1 l0_2 l0_3 l0_4 l1 = some r) :
    Calls Tryz.prog 11 #[.agg #[.slice A0_0 l0_0.length c0_0, .slice A0_1 l0_1.length c0_1, .slice A0_2 l0_2.length c0_2, .slice A0_3 l0_3.length c0_3, .slice A0_4 l0_4.length c0_4], .slice A1 l1.length c1] w fun e w' => e = .returned (.string r) ∧ Below w.heap.size w w' := by
  unfold lift_Trace.f at h
  by_cases hb : shortC l0_2 = true ∧ traceFit l0_1 l1 = true
  · rw [if_pos hb] at h
    have HF := Aside0.mk (Option.some.inj h)
    have HG := Aside0.mk hG
    have H0 := Aside0.mk (And.intro hr0_0 hc0_0)
    have H1 := Aside0.mk (And.intro hr0_1 hc0_1)
    have H2 := Aside0.mk (And.intro hr0_2 hc0_2)
    have H3 := Aside0.mk (And.intro hr0_3 hc0_3)
    have H4 := Aside0.mk (And.intro hr0_4 hc0_4)
    have HR1 := Aside0.mk hr1
    have hfit := hb.2
    simp only [traceFit, Bool.and_eq_true, decide_eq_true_eq] at hfit
    obtain ⟨⟨f1, f2⟩, f3⟩ := hfit
    have HNM := Aside0.mk (show ∀ s ∈ l0_1.map (·.f0), s.size ≤ 10000 from fun s hs => by
      obtain ⟨x, hx, rfl⟩ := List.mem_map.1 hs
      exact of_decide_eq_true (List.all_eq_true.1 f2 x hx))
    have hsh : shortP l0_1 = true := List.all_eq_true.2 fun x hx => decide_eq_true (by have := of_decide_eq_true (List.all_eq_true.1 f2 x hx); omega)
    have HNF := Aside0.mk (show lift_named.f l0_0 l0_1 l0_2 l0_3 l0_4 = some (unlikeB (namesP l0_1) && unlikeB (namesC l0_2)) by unfold lift_named.f; rw [if_pos ⟨hsh, hb.1⟩])
    have hO := (MapKept.heap_alloc w (.cells #[.slice A0_0 l0_0.length c0_0, .slice A0_1 l0_1.length c0_1, .slice A0_2 l0_2.length c0_2, .slice A0_3 l0_3.length c0_3, .slice A0_4 l0_4.length c0_4] 27)).1
    have HO := Aside0.mk hO
    clear hO h hG hb hr0_0 hc0_0 hr0_1 hc0_1 hr0_2 hc0_2 hr0_3 hc0_3 hr0_4 hc0_4 hr1 f2 hsh
    have hba : Below w.heap.size w (w.alloc (.cells #[.slice A0_0 l0_0.length c0_0, .slice A0_1 l0_1.length c0_1, .slice A0_2 l0_2.length c0_2, .slice A0_3 l0_3.length c0_3, .slice A0_4 l0_4.length c0_4] 27)) := below_alloc (Below.refl _ _) _
    have HBA := Aside0.mk hba
    clear hba
    cases hU : (unlikeB (namesP l0_1) && unlikeB (namesC l0_2))
    · rw [hU] at HNF
      have HR := Aside0.mk (show r = ⟨#[]⟩ by rw [← HF.out]; unfold traceB; rw [if_neg (by rw [hU]; simp)])
      clear hU
      go_enter Tryz.func11, Tryz.ntmps11
      go_wp2_with (first | (go_at_call 28; refine (lift_named.calls A0_0 c0_0 l0_0 A0_1 c0_1 l0_1 A0_2 c0_2 l0_2 A0_3 c0_3 l0_3 A0_4 c0_4 l0_4 false _ (tab_below HG.out HBA.out) (Kd.C_below H0.out.1 HBA.out) H0.out.2 (Kd.C_below H1.out.1 HBA.out) H1.out.2 (Kd.C_below H2.out.1 HBA.out) H2.out.2 (Kd.C_below H3.out.1 HBA.out) H3.out.2 (Kd.C_below H4.out.1 HBA.out) H4.out.2 HNF.out).mono ?_; rintro e w' ⟨rfl, hb⟩))
      go_ret
      exact ⟨by rw [HR.out]; rfl, below_step HBA.out hb⟩
    · rw [hU] at HNF
      have HR := Aside0.mk (show l1.all (rowOk l0_1.length) = true → r = ⟨(rowsB (l0_1.map (·.f0)) 0 l1).toArray⟩ from fun hq => by rw [← HF.out]; unfold traceB; rw [if_pos ⟨hU, hq⟩])
      have HRN := Aside0.mk (show l1.all (rowOk l0_1.length) = false → r = ⟨#[]⟩ from fun hq => by rw [← HF.out, traceB_bad hq])
      clear hU
      go_enter Tryz.func11, Tryz.ntmps11
      go_wp2_with (first | (go_at_call 28; refine (lift_named.calls A0_0 c0_0 l0_0 A0_1 c0_1 l0_1 A0_2 c0_2 l0_2 A0_3 c0_3 l0_3 A0_4 c0_4 l0_4 true _ (tab_below HG.out HBA.out) (Kd.C_below H0.out.1 HBA.out) H0.out.2 (Kd.C_below H1.out.1 HBA.out) H1.out.2 (Kd.C_below H2.out.1 HBA.out) H2.out.2 (Kd.C_below H3.out.1 HBA.out) H3.out.2 (Kd.C_below H4.out.1 HBA.out) H4.out.2 HNF.out).mono ?_; rintro e w1 ⟨rfl, hb⟩))
      have HW := Aside0.mk (below_step HBA.out hb)
      have HNB := Aside0.mk ((hb.block _ (Array.getElem?_eq_some_iff.1 HO.out).1).trans HO.out)
      clear hb HBA HO
      try simp only [Act.put, List.setIfInBounds_toArray, List.set_cons_succ, List.set_cons_zero]
      go_loopg [15] l1.length (fun kq v15 wr => ∃ k : Nat, v15 = .int .i64 k ∧ k ≤ l1.length ∧ Aside0 (kq = l1.length - k) ∧ Aside0 (Lib.IsBuilder 83 5 w1.heap.size w1.heap.size (Lib.byteCells (rowsB (l0_1.map (·.f0)) 0 (l1.take k))) wr) ∧ Aside0 (Below w1.heap.size w1 wr) ∧ Aside0 ((l1.take k).all (rowOk l0_1.length) = true))
      case atStart => exact ⟨0, rfl, by omega, ⟨by omega⟩, ⟨Lib.fresh_isBuilder _ _ w1⟩, ⟨below_alloc (Below.refl _ _) _⟩, ⟨rfl⟩⟩
      case round =>
        obtain ⟨k, rfl, hk, HQ, HOB, HB, HA⟩ := hrel
        by_cases hlt : k < l1.length
        · have hi0 : 0 ≤ (k : Int) := by omega
          have hi1 : (k : Int) < l1.length := by omega
          obtain ⟨ad, A, c, e, x0, hcl, hC⟩ := at_L12 HR1.out k hi0 hi1
          cases e
          have hto : (k : Int).toNat = k := by omega
          simp only [hto] at x0
          clear hto
          generalize hrow : rd_L12 l1 (k : Int) = row at x0 hcl hC
          have HROW := Aside0.mk (show l1[k] = row by rw [← hrow]; simp [rd_L12, hlt])
          have hrl : row.length ≤ 9223372036854775807 := hC.2.1
          have HC := Aside0.mk hC
          clear hrow hC
          have x0 := pw_cell_below (below_step HW.out HB.out) x0
          have x1 := Lib.cell_of_heap ((HB.out.block _ (Array.getElem?_eq_some_iff.1 HNB.out).1).trans HNB.out) 1
          by_cases hlen : row.length = l0_1.length
          · have b0 : ((row.length : Int) == (l0_1.length : Int)) = true := beq_iff_eq.mpr (by omega)
            have b1 : ((row.length : Int) != (l0_1.length : Int)) = false := bne_eq_false_iff_eq.mpr (by omega)
            have b2 : (row.length == l0_1.length) = true := beq_iff_eq.mpr hlen
            have HLEN := Aside0.mk hlen
            clear hlen
            have s0 := numB_size (k : Int) (wf_nat k (by omega))
            have z0 : (9223372036854775807 < (numB (k : Int)).size + 1) = False := eq_false (by omega)
            have HWF := Aside0.mk (wf_nat k (by omega))
            have HT := Aside0.mk (tab_below HG.out (below_step HW.out HB.out))
            have HL1 := Aside0.mk (show (rowsB (l0_1.map (·.f0)) 0 (l1.take k)).length ≤ 1002300230000 from by
              have := rowsB_len (l0_1.map (·.f0)) HNM.out (l1.take k) 0 (by simp; omega) (rows_wf HA.out f1)
              have e : (l1.take k).length ≤ k := List.length_take_le _ _
              have := Nat.mul_le_mul_left 100230023 e
              omega)
            have HFS := Aside0.mk (firstB_size k (by omega))
            go_wp2_with (first | (go_at_call 33; refine (strconv_Itoa.calls _ (numB k) _ HT.out (itoa_f _ HWF.out)).mono ?_; rintro e w' ⟨rfl, hb⟩; have n0 := Aside0.mk (builder_below HOB.out hb); have n2 := Aside0.mk (below_step HB.out hb); clear HOB HB HT hb; have HOB := n0; have HB := n2; clear n0 n2) | (go_at_call 41; refine (write_calls 83 liesB (by decide) w1.heap.size w1.heap.size _ _ _ HOB.out ?hlen HB.out.size).mono ?_; (case hlen => have q1 := HL1.out; have q2 := HFS.out; unfold firstB at q2; omega); rintro e w2 ⟨rfl, hn, hbW, hkW⟩; have n0 := Aside0.mk hn; have n2 := Aside0.mk (Below.trans HB.out hbW); clear HOB HB hn hbW hkW; have HOB := n0; have HB := n2; clear n0 n2))
            clear x0 x1 b0 b1 b2 z0 s0
            try simp only [Act.put, List.setIfInBounds_toArray, List.set_cons_succ, List.set_cons_zero]
            go_loopg [32] row.length (fun jq v32 wr2 => ∃ j : Nat, v32 = .int .i64 j ∧ j ≤ row.length ∧ Aside0 (jq = row.length - j) ∧ Aside0 (Lib.IsBuilder 83 5 w1.heap.size w1.heap.size (Lib.byteCells (rowsB (l0_1.map (·.f0)) 0 (l1.take k) ++ (firstB k).data.toList ++ itemsB ((l0_1.map (·.f0)).take j) (row.take j))) wr2) ∧ Aside0 (Below w1.heap.size w1 wr2) ∧ Aside0 ((row.take j).all inRange = true))
            case atStart => exact ⟨0, rfl, by omega, ⟨by omega⟩, ⟨by have := HOB.out; unfold firstB; simpa [itemsB] using this⟩, HB, ⟨rfl⟩⟩
            case round =>
              clear HOB HB
              obtain ⟨j, rfl, hj, HJQ, HOB, HB, HIA⟩ := hrel
              by_cases hjl : j < row.length
              · have hj0 : 0 ≤ (j : Int) := by omega
                have hj1 : (j : Int) < row.length := by omega
                have hj2 : (j : Int) < l0_1.length := by have := HLEN.out; omega
                obtain ⟨adr, er, xr⟩ := Kd.at_int (Kd.C_below HC.out (below_step HW.out HB.out)) (j : Int) hj0 hj1
                cases er
                obtain ⟨adp, ep, y0, y1⟩ := at_T72 H1.out.1 (j : Int) hj0 hj2
                cases ep
                have hto : (j : Int).toNat = j := by omega
                simp only [hto] at xr y0
                clear hto y1
                generalize hxv : rd row (j : Int) = xv at xr
                have HXV := Aside0.mk (show row[j] = xv by rw [← hxv]; simp [rd, hjl])
                clear hxv
                generalize hnm : (rd_T72 l0_1 (j : Int)).f0 = nm at y0
                have hjp : j < (l0_1.map (·.f0)).length := by simp; omega
                have HNMJ := Aside0.mk (show (l0_1.map (·.f0))[j] = nm by rw [← hnm]; simp [rd_T72, show j < l0_1.length by omega])
                clear hnm
                by_cases hin : inRange xv = true
                · have hin' := hin
                  simp only [inRange, Bool.and_eq_true, decide_eq_true_eq] at hin'
                  obtain ⟨hx0, hx1⟩ := hin'
                  have HIN := Aside0.mk hin
                  clear hin
                  have hsz : nm.size ≤ 10000 := by have := HNM.out _ (List.getElem_mem hjp); rw [HNMJ.out] at this; exact this
                  have HWX := Aside0.mk (wf_of xv (by omega) (by omega))
                  have s1 := numB_size xv HWX.out
                  have z1 : (9223372036854775807 < 1 + nm.size) = False := eq_false (by omega)
                  have z2 : (9223372036854775807 < 1 + nm.size + 1) = False := eq_false (by omega)
                  have z3 : (9223372036854775807 < 1 + nm.size + 1 + (numB xv).size) = False := eq_false (by omega)
                  have HPS := Aside0.mk (pinB_size nm xv hsz HWX.out)
                  have HLJ := Aside0.mk (show (itemsB ((l0_1.map (·.f0)).take j) (row.take j)).length ≤ 100230000 by
                    have a := itemsB_len ((l0_1.map (·.f0)).take j) (row.take j) (fun s hs => HNM.out s (List.mem_of_mem_take hs)) (inRange_wf HIA.out)
                    have e : (row.take j).length ≤ j := List.length_take_le _ _
                    have := HLEN.out
                    have := Nat.mul_le_mul_left 10023 e
                    omega)
                  have TS := Aside0.mk (show ∀ w' : World, Below w.heap.size w w' → Below w1.heap.size w1 w' → (w'.cell? ⟨w.heap.size, 1, none⟩ = some (.slice (some adp) l0_1.length c0_1) ∧ w'.cell? (adp.add (j * 2)) = some (.string nm)) from fun w' q1 q2 =>
                    ⟨Lib.cell_of_heap ((q2.block _ (Array.getElem?_eq_some_iff.1 HNB.out).1).trans HNB.out) 1, pw_cell_below q1 y0⟩)
                  clear y0 hsz
                  go_wp2
                  have n0 := Aside0.mk (builder_below HOB.out (below_drew (Below.refl _ _)))
                  have n2 := Aside0.mk (below_drew HB.out)
                  clear HOB HB
                  have HOB := n0
                  have HB := n2
                  clear n0 n2
                  have HT := Aside0.mk (tab_below HG.out (below_step HW.out HB.out))
                  go_region_held3 (fun w' => w'.cell? ⟨w.heap.size, 1, none⟩ = some (.slice (some adp) l0_1.length c0_1) ∧ w'.cell? (adp.add (j * 2)) = some (.string nm)) (exact TS.out _ (below_step HW.out HB.out) HB.out) (first | (go_at_call 33; refine (strconv_Itoa.calls _ (numB xv) _ HT.out (itoa_f _ HWX.out)).mono ?_; rintro e w' ⟨rfl, hb⟩; have n0 := Aside0.mk (builder_below HOB.out hb); have n2 := Aside0.mk (below_step HB.out hb); clear HOB HB HT hb; have HOB := n0; have HB := n2; clear n0 n2) | (go_at_call 41; refine (write_calls 83 liesB (by decide) w1.heap.size w1.heap.size _ _ _ HOB.out ?hlen HB.out.size).mono ?_; (case hlen => have q1 := HL1.out; have q2 := HFS.out; have q3 := HPS.out; have q4 := HLJ.out; unfold pinB at q3; have e : (firstB k).data.toList.length = (firstB k).size := (by simp); simp only [List.length_append]; omega); rintro e w2 ⟨rfl, hn, hbW, hkW⟩; have n0 := Aside0.mk hn; have n2 := Aside0.mk (Below.trans HB.out hbW); clear HOB HB hn hbW hkW; have HOB := n0; have HB := n2; clear n0 n2))
                  all_goals (
                    go_wp2
                    go_roundg (row.length - (j + 1))
                    case measure => have h8 := HJQ.out; clear z1 z2 z3; omega
                    case rel =>
                      exact ⟨j + 1, by go_num, by omega, ⟨rfl⟩, ⟨by
                        have := HOB.out
                        rw [itemsB_snoc _ _ j hjp hjl, HNMJ.out, HXV.out, ← List.append_assoc]
                        exact this⟩, HB, ⟨all_take_snoc hjl HIA.out (by rw [HXV.out]; exact HIN.out)⟩⟩)
                · have hbad : inRange xv = false := by simpa using hin
                  have hR : r = ⟨#[]⟩ := HRN.out (all_take_false hlt (by
                    rw [HROW.out]
                    unfold rowOk
                    rw [show row.all (fun x => decide (0 ≤ x) && decide (x ≤ 65535)) = false from all_take_false (p := inRange) hjl (by rw [HXV.out]; exact hbad), Bool.and_false]))
                  have HRE := Aside0.mk hR
                  clear hR y0 hin
                  simp only [inRange, Bool.and_eq_false_iff, decide_eq_false_iff_not] at hbad
                  have HBL := Aside0.mk (below_step HW.out HB.out)
                  by_cases hx0 : xv < 0
                  · clear hbad
                    go_wp2
                    go_ret
                    exact ⟨by rw [HRE.out]; rfl, HBL.out⟩
                  · have hx1 : 65535 < xv := by omega
                    clear hbad
                    go_wp2
                    go_ret
                    exact ⟨by rw [HRE.out]; rfl, HBL.out⟩
              · obtain rfl : j = row.length := by omega
                have HLJ := Aside0.mk (show (itemsB ((l0_1.map (·.f0)).take row.length) (row.take row.length)).length ≤ 100230000 by
                    have a := itemsB_len ((l0_1.map (·.f0)).take row.length) (row.take row.length) (fun s hs => HNM.out s (List.mem_of_mem_take hs)) (inRange_wf HIA.out)
                    have e : (row.take row.length).length ≤ row.length := List.length_take_le _ _
                    have := HLEN.out
                    have := Nat.mul_le_mul_left 10023 e
                    omega)
                go_wp2_with (first | (go_at_call 41; refine (write_calls 83 liesB (by decide) w1.heap.size w1.heap.size _ (⟨#[10]⟩ : ByteArray) _ HOB.out ?hlen HB.out.size).mono ?_; (case hlen => have q1 := HL1.out; have q2 := HFS.out; have q4 := HLJ.out; have e : (firstB k).data.toList.length = (firstB k).size := (by simp); have e2 : (⟨#[10]⟩ : ByteArray).size = 1 := rfl; simp only [List.length_append]; omega); rintro e w2 ⟨rfl, hn, hbW, hkW⟩; have n0 := Aside0.mk hn; have n2 := Aside0.mk (Below.trans HB.out hbW); clear HOB HB hn hbW hkW; have HOB := n0; have HB := n2; clear n0 n2))
                go_roundg (l1.length - (k + 1))
                case measure => have h8 := HQ.out; omega
                case rel =>
                  have hall : row.all inRange = true := by have := HIA.out; rwa [List.take_length] at this
                  exact ⟨k + 1, by go_num, by omega, ⟨rfl⟩, ⟨by
                    have := HOB.out
                    rw [rowsB_snoc _ l1 0 k hlt, HROW.out, Nat.zero_add]
                    rw [List.take_length, List.take_of_length_le (show (l0_1.map (·.f0)).length ≤ row.length by rw [List.length_map, HLEN.out]; exact Nat.le_refl _)] at this
                    unfold rowB
                    simpa [List.append_assoc] using this⟩, HB, ⟨all_take_snoc hlt HA.out (by rw [HROW.out]; unfold rowOk; rw [HLEN.out, beq_self_eq_true, Bool.true_and]; exact hall)⟩⟩
          · have b0 : ((row.length : Int) == (l0_1.length : Int)) = false := beq_eq_false_iff_ne.mpr (by omega)
            have b1 : ((row.length : Int) != (l0_1.length : Int)) = true := bne_iff_ne.mpr (by omega)
            have b2 : (row.length == l0_1.length) = false := beq_eq_false_iff_ne.mpr hlen
            have hR : r = ⟨#[]⟩ := HRN.out (all_take_false hlt (by rw [HROW.out]; unfold rowOk; rw [b2]; rfl))
            have HRE := Aside0.mk hR
            have HBL := Aside0.mk (below_step HW.out HB.out)
            clear hR hlen
            go_wp2
            go_ret
            exact ⟨by rw [HRE.out]; rfl, HBL.out⟩
        · obtain rfl : k = l1.length := by omega
          have hr : r = ⟨(rowsB (l0_1.map (·.f0)) 0 l1).toArray⟩ := HR.out (by have := HA.out; rwa [List.take_length] at this)
          have HRE := Aside0.mk hr
          clear hr
          have hob := HOB.out
          rw [List.take_length] at hob
          have HOB2 := Aside0.mk hob
          clear hob
          go_wp2_with (first | (go_at_call 42; refine (Tryz.Builder_String_any w1.heap.size w1.heap.size _ _ HOB2.out HB.out.size).mono ?_; rintro e w' ⟨rfl, hb⟩))
          go_ret
          exact ⟨by rw [HRE.out]; rfl, below_step HW.out (HB.out.trans hb)⟩
  · rw [if_neg hb] at h; exact absurd h (by simp)
end Go.Proofs.YtmfekngjhiofaaaGreatDoor.Q
