/-
  HAND: report.Faults.
-/
import Derived.Test.YtmfekngjhiofaaaGreatDoorQx0
import Derived.Test.YtmfekngjhiofaaaGreatDoorHTab
import Derived.Test.YtmfekngjhiofaaaGreatDoorHBuilder
import Derived.Test.YtmfekngjhiofaaaGreatDoorHBase
import Derived.Maps.Keyed
import Derived.Lib.ItoaLen
set_option linter.unusedVariables false
set_option linter.unusedSimpArgs false
namespace Go.Proofs.YtmfekngjhiofaaaGreatDoor.Q
open Go.RowKit Go.Proofs.YtmfekngjhiofaaaGreatDoorW.PrintWords Go.Proofs.YtmfekngjhiofaaaGreatDoorW.PrintLast Go.Proofs.YtmfekngjhiofaaaGreatDoorW.PrintMore

/-- an error's words, or none -/
def wordOf (e : Int) : ByteArray := match wordsD.atKey (.int .i64 e) (.lit (.string [])) with
  | .lit (.string l) => ⟨l.toArray⟩
  | _ => ⟨#[]⟩
theorem zeroStr (w : World) : (zeroValue 9).run Tryz.prog w = .ok (.string ⟨#[]⟩) w := Tryz.zeroValue9 w
theorem plainElem_string_inv' {H : Type} {P : Program} {e : TypeId} (he : P.underlying e = some .string) {v : Value} {z : DataW H × List MemPlace} (h : plainElem P e v = some z) : ∃ s : ByteArray, v = .string s ∧ z.1 = .lit (.string s.data.toList) := by
  unfold plainElem at h
  rw [he] at h
  cases v <;> simp at h
  case string s => exact ⟨s, rfl, by obtain ⟨_, rfl⟩ := h; rfl⟩
theorem words_look {w : World} (hG : Tab w) : ∃ bm, w.cell? ⟨0, 0, none⟩ = some (.map (some bm)) ∧ ∀ e : Int, (Lit.int .i64 e).wf = true → (Instr.lookup 126 (.map (some bm)) (.int .i64 e) false).run Tryz.prog w = .ok (.string (wordOf e)) w := by
  obtain ⟨_, ⟨bm, n, h2, h3⟩, _⟩ := hG
  refine ⟨bm, h2, fun e he => ?_⟩
  obtain ⟨v, ps, hrun, hv⟩ := h3.lookup (Maps.int_keyed Tryz.underlying99) Tryz.underlying126 (zeroStr w) (plainElem_string Tryz.underlying9 (s := ⟨#[]⟩) (by decide)) (Maps.keyOf_int_mk Tryz.underlying99 he)
  obtain ⟨val, rfl, hz⟩ := plainElem_string_inv' Tryz.underlying9 hv
  rw [hrun]
  have : wordOf e = val := by
    unfold wordOf
    have hz' : wordsD.atKey (.int .i64 e) (.lit (.string [])) = .lit (.string val.data.toList) := hz
    rw [hz']
  rw [this]
def errB : ByteArray := ⟨#[101, 114, 114, 111, 114, 32]⟩
def atB : ByteArray := ⟨#[32, 97, 116, 32]⟩
def modB : ByteArray := ⟨#[44, 32, 109, 111, 100, 117, 108, 101, 32]⟩
def itemB : ByteArray := ⟨#[44, 32, 105, 116, 101, 109, 32]⟩
def wordQ (e : Int) : ByteArray := if wordOf e = ⟨#[]⟩ then ⟨#[63]⟩ else wordOf e
def faultBQ (x : S101) (q : ByteArray) : ByteArray :=
  ((((((((((errB ++ numB x.f0) ++ atB) ++ numB x.f1) ++ modB) ++ numB x.f2) ++ itemB) ++ numB x.f3) ++ (⟨#[58, 32]⟩ : ByteArray)) ++ q) ++ (⟨#[10]⟩ : ByteArray))
def faultB (x : S101) : ByteArray := faultBQ x (wordQ x.f0)
def faultsB (l : List S101) : List UInt8 := (l.map fun x => (faultB x).data.toList).flatten
theorem wordOf_size (e : Int) : (wordOf e).size ≤ 100 := by
  have h : ∀ p ∈ (match wordsD with | .map es => es | _ => []), ∃ l : List UInt8, p.2 = .lit (.string l) ∧ l.length ≤ 100 := by
    unfold wordsD Rows.laid_proofmark_report_words
    intro p hp
    simp only [List.mem_cons, List.not_mem_nil, or_false] at hp
    rcases hp with rfl | rfl | rfl | rfl | rfl | rfl | rfl | rfl | rfl | rfl | rfl | rfl | rfl | rfl | rfl | rfl | rfl | rfl | rfl | rfl <;> exact ⟨_, rfl, by decide⟩
  have hm : ∃ es, wordsD = .map es := ⟨_, rfl⟩
  obtain ⟨es, hes⟩ := hm
  rw [hes] at h
  unfold wordOf
  rw [hes]
  unfold DataW.atKey
  cases hf : es.find? (fun p => p.1.sameKey (.int .i64 e)) with
  | none => simp only [hf]; decide
  | some p =>
    obtain ⟨l, h1, h2⟩ := h p (List.mem_of_find?_eq_some hf)
    simp only [hf, h1]
    show l.toArray.size ≤ 100
    simpa using h2
theorem wordQ_size (e : Int) : (wordQ e).size ≤ 100 := by
  have := wordOf_size e
  unfold wordQ; split
  · decide
  · exact this
def wfF (x : S101) : Bool := (Lit.int .i64 x.f0).wf && (Lit.int .i64 x.f1).wf && (Lit.int .i64 x.f2).wf && (Lit.int .i64 x.f3).wf
theorem faultB_size (x : S101) (h : wfF x = true) : (faultB x).size ≤ 300 := by
  simp only [wfF, Bool.and_eq_true] at h
  have s0 := numB_size x.f0 h.1.1.1
  have s1 := numB_size x.f1 h.1.1.2
  have s2 := numB_size x.f2 h.1.2
  have s3 := numB_size x.f3 h.2
  have s4 := wordQ_size x.f0
  unfold faultB faultBQ
  simp only [ByteArray.size_append]
  have e1 : errB.size = 6 := rfl
  have e2 : atB.size = 4 := rfl
  have e3 : modB.size = 9 := rfl
  have e4 : itemB.size = 7 := rfl
  have e5 : (⟨#[58, 32]⟩ : ByteArray).size = 2 := rfl
  have e6 : (⟨#[10]⟩ : ByteArray).size = 1 := rfl
  omega
theorem faultsB_len : ∀ (l : List S101), l.all wfF = true → (faultsB l).length ≤ 300 * l.length
  | [], _ => by simp [faultsB]
  | x :: l, h => by
    simp only [List.all_cons, Bool.and_eq_true] at h
    have h1 := faultB_size x h.1
    have h2 := faultsB_len l h.2
    have e : (faultB x).data.toList.length = (faultB x).size := by simp
    simp only [faultsB, List.map_cons, List.flatten_cons, List.length_append, List.length_cons] at h2 ⊢
    omega
theorem faultsB_snoc (l : List S101) (k : Nat) (hk : k < l.length) : faultsB (l.take (k + 1)) = faultsB (l.take k) ++ (faultB l[k]).data.toList := by
  unfold faultsB
  rw [List.take_add_one, List.getElem?_eq_getElem hk, Option.toList_some, List.map_append, List.flatten_append, List.map_cons, List.map_nil, List.flatten_cons, List.flatten_nil, List.append_nil]
theorem faults_cells (l : List S101) (k : Nat) (hk : k < l.length) : Lib.byteCells (faultsB (l.take k)) ++ Lib.strCells (faultB l[k]) = Lib.byteCells (faultsB (l.take (k + 1))) := by
  rw [faultsB_snoc l k hk, Lib.strCells_eq]; simp [Lib.byteCells]
def report_Faults.f (l0 : List (S101)) : Option (ByteArray) := if l0.length ≤ 100000000 ∧ l0.all wfF = true then some ⟨(faultsB l0).toArray⟩ else none
set_option maxHeartbeats 4000000 in
set_option maxRecDepth 100000 in
theorem report_Faults.calls (A0 : Option Addr) (c0 : Nat) (l0 : List (S101)) (r : ByteArray) (w : World) (hG : Tab w) (hr0 : Kd.C k101 w A0 l0.length l0) (hc0 : l0.length ≤ c0) (h : report_Faults.f l0 = some r) :
    Calls Tryz.prog 52 #[.slice A0 l0.length c0] w fun e w' => e = .returned (.string r) ∧ Below w.heap.size w w' := by
  have HG := Aside0.mk hG
  have HR0 := Aside0.mk hr0
  clear hr0 hG
  unfold report_Faults.f at h
  by_cases hb1 : l0.length ≤ 100000000 ∧ l0.all wfF = true
  · rw [if_pos hb1] at h
    have HF := Aside0.mk (Option.some.inj h)
    have HN := Aside0.mk hb1
    clear h hb1
    go_enter Tryz.func52, Tryz.ntmps52
    go_wp2
    try simp only [Act.put, List.setIfInBounds_toArray, List.set_cons_succ, List.set_cons_zero]
    go_loopg [9] l0.length (fun kq v9 w' => ∃ k : Nat, v9 = .int .i64 k ∧ k ≤ l0.length ∧ Aside0 (kq = l0.length - k) ∧ Aside0 (Lib.IsBuilder 83 5 w.heap.size w.heap.size (Lib.byteCells (faultsB (l0.take k))) w') ∧ Aside0 (Below w.heap.size w w'))
    case atStart => exact ⟨0, rfl, by omega, ⟨by omega⟩, ⟨Lib.fresh_isBuilder _ _ w⟩, ⟨below_alloc (Below.refl _ _) _⟩⟩
    case round =>
      obtain ⟨k, rfl, hk, HQ, HO, HB⟩ := hrel
      by_cases hlt : k < l0.length
      · have hi0 : 0 ≤ (k : Int) := by omega
        have hi1 : (k : Int) < l0.length := by omega
        obtain ⟨ad, e, x0, x1, x2, x3⟩ := at_T101 (Kd.C_below HR0.out HB.out) k hi0 hi1
        cases e
        have hto : (k : Int).toNat = k := by omega
        simp only [hto] at x0 x1 x2 x3
        clear hto
        generalize hy : rd_T101 l0 (k : Int) = y at x0 x1 x2 x3
        have HY := Aside0.mk hy
        clear hy
        have hyk : y = l0[k] := by rw [← HY.out]; simp [rd_T101, hlt]
        have hwy : wfF y = true := by rw [hyk]; exact List.all_eq_true.1 HN.out.2 _ (List.getElem_mem hlt)
        simp only [wfF, Bool.and_eq_true] at hwy
        obtain ⟨⟨⟨hw0, hw1⟩, hw2⟩, hw3⟩ := hwy
        obtain ⟨bm, hm, hlk⟩ := words_look (w := wr.alloc (.cells #[.int .i64 y.f0, .int .i64 y.f1, .int .i64 y.f2, .int .i64 y.f3] 101)) (tab_below HG.out (below_alloc HB.out _))
        have hl := hlk y.f0 hw0
        have HW := And.intro hw0 (And.intro hw1 (And.intro hw2 hw3))
        replace HW := Aside0.mk HW
        clear hlk hw0 hw1 hw2 hw3
        have HYK := Aside0.mk hyk
        clear hyk
        have hb2 : Below w.heap.size w (wr.alloc (.cells #[.int .i64 y.f0, .int .i64 y.f1, .int .i64 y.f2, .int .i64 y.f3] 101)) := below_alloc HB.out _
        have HT := Aside0.mk (tab_below HG.out hb2)
        have HO2 := Aside0.mk (builder_below HO.out (below_alloc (Below.refl wr.heap.size wr) (.cells #[.int .i64 y.f0, .int .i64 y.f1, .int .i64 y.f2, .int .i64 y.f3] 101)))
        replace hb2 := Aside0.mk hb2
        have tail : ∀ (W : World) (q : ByteArray), True := fun _ _ => trivial
        by_cases hq : wordOf y.f0 = ⟨#[]⟩
        · have HQW := Aside0.mk (show wordQ y.f0 = ⟨#[63]⟩ by unfold wordQ; rw [if_pos hq])
          rw [hq] at hl
          clear hq
          go_wp2
          have hblk : (wr.alloc (.cells #[.int .i64 y.f0, .int .i64 y.f1, .int .i64 y.f2, .int .i64 y.f3] 101)).drew.heap[wr.heap.size]? = some (.cells #[.int .i64 y.f0, .int .i64 y.f1, .int .i64 y.f2, .int .i64 y.f3] 101 (0, 0)) := (MapKept.heap_alloc wr _).1
          have n0 := Aside0.mk (builder_below HO2.out (below_drew (Below.refl _ _)))
          have n1 := Aside0.mk (tab_below HT.out (below_drew (Below.refl _ _)))
          have n2 := Aside0.mk (below_drew hb2.out)
          clear HO2 HT hb2
          have HO2 := n0
          have HT := n1
          have hb2 := n2
          clear n0 n1 n2
          have HNE := Aside0.mk (show wr.heap.size ≠ w.heap.size by
            have := HO.out.elim (fun x => x.lt) (fun x => x.lt)
            omega)
          have HLen := Aside0.mk (show (Lib.byteCells (faultsB (l0.take k))).length + (faultB y).size ≤ 140737488355328 by
            have h1 := faultsB_len (l0.take k) (List.all_eq_true.2 fun x hx => List.all_eq_true.1 HN.out.2 x (List.mem_of_mem_take hx))
            have h2 : wfF y = true := by simp only [wfF, Bool.and_eq_true]; exact ⟨⟨⟨HW.out.1, HW.out.2.1⟩, HW.out.2.2.1⟩, HW.out.2.2.2⟩
            have h3 := faultB_size y h2
            have h4 := HN.out.1
            rw [Lib.byteCells_length]
            rw [List.length_take] at h1
            omega)
          unfold faultB faultBQ at HLen
          rw [HQW.out] at HLen
          have s0 := numB_size y.f0 HW.out.1
          have s1 := numB_size y.f1 HW.out.2.1
          have s2 := numB_size y.f2 HW.out.2.2.1
          have s3 := numB_size y.f3 HW.out.2.2.2
          have z0 : (9223372036854775807 < 6 + (numB y.f0).size) = False := eq_false (by omega)
          have z1 : (9223372036854775807 < 6 + (numB y.f0).size + 4) = False := eq_false (by omega)
          have z2 : (9223372036854775807 < 6 + (numB y.f0).size + 4 + (numB y.f1).size) = False := eq_false (by omega)
          have z3 : (9223372036854775807 < 6 + (numB y.f0).size + 4 + (numB y.f1).size + 9) = False := eq_false (by omega)
          have z4 : (9223372036854775807 < 6 + (numB y.f0).size + 4 + (numB y.f1).size + 9 + (numB y.f2).size) = False := eq_false (by omega)
          have z5 : (9223372036854775807 < 6 + (numB y.f0).size + 4 + (numB y.f1).size + 9 + (numB y.f2).size + 7) = False := eq_false (by omega)
          have z6 : (9223372036854775807 < 6 + (numB y.f0).size + 4 + (numB y.f1).size + 9 + (numB y.f2).size + 7 + (numB y.f3).size) = False := eq_false (by omega)
          have z7 : (9223372036854775807 < 6 + (numB y.f0).size + 4 + (numB y.f1).size + 9 + (numB y.f2).size + 7 + (numB y.f3).size + 2) = False := eq_false (by omega)
          have z8 : (9223372036854775807 < 6 + (numB y.f0).size + 4 + (numB y.f1).size + 9 + (numB y.f2).size + 7 + (numB y.f3).size + 2 + 1) = False := eq_false (by omega)
          have z9 : (9223372036854775807 < 6 + (numB y.f0).size + 4 + (numB y.f1).size + 9 + (numB y.f2).size + 7 + (numB y.f3).size + 2 + 1 + 1) = False := eq_false (by omega)
          go_region_held3 (fun w' => w'.heap[wr.heap.size]? = some (.cells #[.int .i64 y.f0, .int .i64 y.f1, .int .i64 y.f2, .int .i64 y.f3] 101 (0, 0)) ∧ w'.cell? ⟨wr.heap.size, 0, none⟩ = some (.int .i64 y.f0) ∧ w'.cell? ⟨wr.heap.size, 1, none⟩ = some (.int .i64 y.f1) ∧ w'.cell? ⟨wr.heap.size, 2, none⟩ = some (.int .i64 y.f2) ∧ w'.cell? ⟨wr.heap.size, 3, none⟩ = some (.int .i64 y.f3)) (first | exact fcells hblk | exact fcells (fkept (hk := hkW) (And.left (by assumption)) HNE.out (by decide)) | exact fcells (fbelow (hb := hb) (And.left (by assumption)))) (first | (go_at_call 33; refine (strconv_Itoa.calls _ (numB _) _ HT.out (itoa_f _ (by first | exact HW.out.1 | exact HW.out.2.1 | exact HW.out.2.2.1 | exact HW.out.2.2.2))).mono ?_; rintro e w' ⟨rfl, hb⟩; have n0 := Aside0.mk (builder_below HO2.out hb); have n1 := Aside0.mk (tab_below HT.out hb); have n2 := Aside0.mk (below_step hb2.out hb); clear HO2 HT hb2; have HO2 := n0; have HT := n1; have hb2 := n2; clear n0 n1 n2) | (go_at_call 41; refine (WriteString 83 liesB (by decide) w.heap.size w.heap.size _ _ _ HO2.out ?hlen hb2.out.size).mono ?_; (case hlen => exact HLen.out); rintro e w' ⟨rfl, hn, hbW, hkW⟩; have HN2 := Aside0.mk hn; have n2 := Aside0.mk (Below.trans hb2.out hbW); clear hb2; have hb2 := n2; clear n2 hn))
          all_goals (
            go_wp2
            go_roundg (l0.length - (k + 1))
            case measure => have h8 := HQ.out; have h9 := hlt; clear z0 z1 z2 z3 z4 z5 z6 z7 z8 z9; omega
            case rel =>
              have h1 : Lib.BuilderAt 83 5 w.heap.size w.heap.size (.pointer (some ⟨w.heap.size, 0, none⟩)) (Lib.byteCells (faultsB (l0.take k)) ++ Lib.strCells (faultBQ y ⟨#[63]⟩)) _ := HN2.out
              rw [← HQW.out, show faultBQ y (wordQ y.f0) = faultB l0[k] from by rw [← HYK.out]; rfl, faults_cells l0 k hlt] at h1
              have hN := HN.out.1
              exact ⟨k + 1, by rw [wrap_k k (by omega)], by omega, ⟨rfl⟩, ⟨.inr h1⟩, hb2⟩)
        · have HQW := Aside0.mk (show wordQ y.f0 = wordOf y.f0 by unfold wordQ; rw [if_neg hq])
          have s4 := wordOf_size y.f0
          have hqn : ¬ (wordOf y.f0).toList = [] := fun e => hq (by rw [ByteArray.toList_eq] at e; cases hx : wordOf y.f0 with | mk a => rw [hx] at e; congr 1; exact Array.toList_eq_nil_iff.1 e)
          have hqb : ((wordOf y.f0).toList == ([] : List UInt8)) = false := by simpa using hqn
          generalize hz : wordOf y.f0 = q at hl hqn hqb s4 HQW
          clear hq hz
          go_wp2
          have hblk : (wr.alloc (.cells #[.int .i64 y.f0, .int .i64 y.f1, .int .i64 y.f2, .int .i64 y.f3] 101)).drew.heap[wr.heap.size]? = some (.cells #[.int .i64 y.f0, .int .i64 y.f1, .int .i64 y.f2, .int .i64 y.f3] 101 (0, 0)) := (MapKept.heap_alloc wr _).1
          have n0 := Aside0.mk (builder_below HO2.out (below_drew (Below.refl _ _)))
          have n1 := Aside0.mk (tab_below HT.out (below_drew (Below.refl _ _)))
          have n2 := Aside0.mk (below_drew hb2.out)
          clear HO2 HT hb2
          have HO2 := n0
          have HT := n1
          have hb2 := n2
          clear n0 n1 n2
          have HNE := Aside0.mk (show wr.heap.size ≠ w.heap.size by
            have := HO.out.elim (fun x => x.lt) (fun x => x.lt)
            omega)
          have HLen := Aside0.mk (show (Lib.byteCells (faultsB (l0.take k))).length + (faultB y).size ≤ 140737488355328 by
            have h1 := faultsB_len (l0.take k) (List.all_eq_true.2 fun x hx => List.all_eq_true.1 HN.out.2 x (List.mem_of_mem_take hx))
            have h2 : wfF y = true := by simp only [wfF, Bool.and_eq_true]; exact ⟨⟨⟨HW.out.1, HW.out.2.1⟩, HW.out.2.2.1⟩, HW.out.2.2.2⟩
            have h3 := faultB_size y h2
            have h4 := HN.out.1
            rw [Lib.byteCells_length]
            rw [List.length_take] at h1
            omega)
          unfold faultB faultBQ at HLen
          rw [HQW.out] at HLen
          have s0 := numB_size y.f0 HW.out.1
          have s1 := numB_size y.f1 HW.out.2.1
          have s2 := numB_size y.f2 HW.out.2.2.1
          have s3 := numB_size y.f3 HW.out.2.2.2
          have z0 : (9223372036854775807 < 6 + (numB y.f0).size) = False := eq_false (by omega)
          have z1 : (9223372036854775807 < 6 + (numB y.f0).size + 4) = False := eq_false (by omega)
          have z2 : (9223372036854775807 < 6 + (numB y.f0).size + 4 + (numB y.f1).size) = False := eq_false (by omega)
          have z3 : (9223372036854775807 < 6 + (numB y.f0).size + 4 + (numB y.f1).size + 9) = False := eq_false (by omega)
          have z4 : (9223372036854775807 < 6 + (numB y.f0).size + 4 + (numB y.f1).size + 9 + (numB y.f2).size) = False := eq_false (by omega)
          have z5 : (9223372036854775807 < 6 + (numB y.f0).size + 4 + (numB y.f1).size + 9 + (numB y.f2).size + 7) = False := eq_false (by omega)
          have z6 : (9223372036854775807 < 6 + (numB y.f0).size + 4 + (numB y.f1).size + 9 + (numB y.f2).size + 7 + (numB y.f3).size) = False := eq_false (by omega)
          have z7 : (9223372036854775807 < 6 + (numB y.f0).size + 4 + (numB y.f1).size + 9 + (numB y.f2).size + 7 + (numB y.f3).size + 2) = False := eq_false (by omega)
          have z8 : (9223372036854775807 < 6 + (numB y.f0).size + 4 + (numB y.f1).size + 9 + (numB y.f2).size + 7 + (numB y.f3).size + 2 + q.size) = False := eq_false (by omega)
          have z9 : (9223372036854775807 < 6 + (numB y.f0).size + 4 + (numB y.f1).size + 9 + (numB y.f2).size + 7 + (numB y.f3).size + 2 + q.size + 1) = False := eq_false (by omega)
          go_region_held3 (fun w' => w'.heap[wr.heap.size]? = some (.cells #[.int .i64 y.f0, .int .i64 y.f1, .int .i64 y.f2, .int .i64 y.f3] 101 (0, 0)) ∧ w'.cell? ⟨wr.heap.size, 0, none⟩ = some (.int .i64 y.f0) ∧ w'.cell? ⟨wr.heap.size, 1, none⟩ = some (.int .i64 y.f1) ∧ w'.cell? ⟨wr.heap.size, 2, none⟩ = some (.int .i64 y.f2) ∧ w'.cell? ⟨wr.heap.size, 3, none⟩ = some (.int .i64 y.f3)) (first | exact fcells hblk | exact fcells (fkept (hk := hkW) (And.left (by assumption)) HNE.out (by decide)) | exact fcells (fbelow (hb := hb) (And.left (by assumption)))) (first | (go_at_call 33; refine (strconv_Itoa.calls _ (numB _) _ HT.out (itoa_f _ (by first | exact HW.out.1 | exact HW.out.2.1 | exact HW.out.2.2.1 | exact HW.out.2.2.2))).mono ?_; rintro e w' ⟨rfl, hb⟩; have n0 := Aside0.mk (builder_below HO2.out hb); have n1 := Aside0.mk (tab_below HT.out hb); have n2 := Aside0.mk (below_step hb2.out hb); clear HO2 HT hb2; have HO2 := n0; have HT := n1; have hb2 := n2; clear n0 n1 n2) | (go_at_call 41; refine (WriteString 83 liesB (by decide) w.heap.size w.heap.size _ _ _ HO2.out ?hlen hb2.out.size).mono ?_; (case hlen => exact HLen.out); rintro e w' ⟨rfl, hn, hbW, hkW⟩; have HN2 := Aside0.mk hn; have n2 := Aside0.mk (Below.trans hb2.out hbW); clear hb2; have hb2 := n2; clear n2 hn))
          all_goals (
            go_wp2
            go_roundg (l0.length - (k + 1))
            case measure => have h8 := HQ.out; have h9 := hlt; clear z0 z1 z2 z3 z4 z5 z6 z7 z8 z9; omega
            case rel =>
              have h1 : Lib.BuilderAt 83 5 w.heap.size w.heap.size (.pointer (some ⟨w.heap.size, 0, none⟩)) (Lib.byteCells (faultsB (l0.take k)) ++ Lib.strCells (faultBQ y q)) _ := HN2.out
              rw [← HQW.out, show faultBQ y (wordQ y.f0) = faultB l0[k] from by rw [← HYK.out]; rfl, faults_cells l0 k hlt] at h1
              have hN := HN.out.1
              exact ⟨k + 1, by rw [wrap_k k (by omega)], by omega, ⟨rfl⟩, ⟨.inr h1⟩, hb2⟩)
      · obtain rfl : k = l0.length := by omega
        have hb0 : w.heap.size ≤ wr.heap.size := HB.out.size
        go_wp2_with (first | (go_at_call 42; refine (Tryz.Builder_String_any w.heap.size w.heap.size _ _ HO.out hb0).mono ?_; rintro e w' ⟨rfl, hb⟩))
        go_ret
        refine ⟨?_, HB.out.trans hb⟩
        rw [← HF.out]
        rfl
  · rw [if_neg hb1] at h
    exact absurd h (by simp)
end Go.Proofs.YtmfekngjhiofaaaGreatDoor.Q
