/-
  HAND: the document's Faults tells what report.Faults tells.
-/
import Derived.Test.YtmfekngjhiofaaaDoorQx0
import Derived.Test.YtmfekngjhiofaaaDoorQx23
import Derived.Test.YtmfekngjhiofaaaDoorHFaults
import Derived.Test.YtmfekngjhiofaaaDoorPRNum
set_option linter.unusedVariables false
set_option linter.unusedSimpArgs false
namespace Go.Proofs.YtmfekngjhiofaaaDoor.Q
open Go.RowKit Go.Proofs.YtmfekngjhiofaaaDoorW.PrintWords Go.Proofs.YtmfekngjhiofaaaDoorW.PrintLast Go.Proofs.YtmfekngjhiofaaaDoorW.PrintMore
theorem word_none (e : Int) (h : ∀ n ∈ ([1, 2, 10, 20, 21, 40, 41, 50, 51, 52, 53, 54, 60, 70, 71, 72, 90, 190, 260, 261] : List Int), e ≠ n) : wordOf e = ⟨#[]⟩ := by
  have hm : ∃ es, wordsD = .map es ∧ ∀ p ∈ es, ∃ n ∈ ([1, 2, 10, 20, 21, 40, 41, 50, 51, 52, 53, 54, 60, 70, 71, 72, 90, 190, 260, 261] : List Int), p.1 = .int .i64 n := by
    refine ⟨_, rfl, ?_⟩
    intro p hp
    simp only [List.mem_cons, List.not_mem_nil, or_false] at hp
    rcases hp with rfl | rfl | rfl | rfl | rfl | rfl | rfl | rfl | rfl | rfl | rfl | rfl | rfl | rfl | rfl | rfl | rfl | rfl | rfl | rfl <;> exact ⟨_, by decide, rfl⟩
  obtain ⟨es, hes, hk⟩ := hm
  have hf : es.find? (fun p => p.1.sameKey (.int .i64 e)) = none := by
    rw [List.find?_eq_none]
    intro p hp
    obtain ⟨n, hn, he⟩ := hk p hp
    have := h n hn
    rw [he]
    simp only [Lit.sameKey]
    simpa using fun q => this q.symm
  unfold wordOf
  rw [hes]
  unfold DataW.atKey
  simp only [hf]
theorem words_f (e : Int) : proofmarkref30_words.f e = some (wordQ e) := by
  unfold proofmarkref30_words.f
  by_cases h : e ∈ ([1, 2, 10, 20, 21, 40, 41, 50, 51, 52, 53, 54, 60, 70, 71, 72, 90, 190, 260, 261] : List Int)
  · simp only [List.mem_cons, List.not_mem_nil, or_false] at h
    rcases h with rfl | rfl | rfl | rfl | rfl | rfl | rfl | rfl | rfl | rfl | rfl | rfl | rfl | rfl | rfl | rfl | rfl | rfl | rfl | rfl <;> rfl
  · have hn : ∀ n ∈ ([1, 2, 10, 20, 21, 40, 41, 50, 51, 52, 53, 54, 60, 70, 71, 72, 90, 190, 260, 261] : List Int), e ≠ n := fun n hn q => h (by rw [q]; exact hn)
    have hw : wordQ e = ⟨#[63]⟩ := by unfold wordQ; rw [if_pos (word_none e hn)]
    rw [hw]
    iterate 20 rw [if_neg (hn _ (by decide))]
def proofmarkref30_Faults.f (l0 : List (S40)) : Option (ByteArray) := report_Faults.f l0
set_option maxHeartbeats 8000000 in
set_option maxRecDepth 100000 in
theorem proofmarkref30_Faults.calls (A0 : Option Addr) (c0 : Nat) (l0 : List (S40)) (r : ByteArray) (w : World) (hr0 : Kd.C k40 w A0 l0.length l0) (hc0 : l0.length ≤ c0) (h : proofmarkref30_Faults.f l0 = some r) :
    Calls Tryd.prog 19 #[.slice A0 l0.length c0] w fun e w' => e = .returned (.string r) ∧ Below w.heap.size w w' := by
  have HR0 := Aside0.mk hr0
  clear hr0
  unfold proofmarkref30_Faults.f report_Faults.f at h
  by_cases hb1 : l0.length ≤ 100000000 ∧ l0.all wfF = true
  · rw [if_pos hb1] at h
    have HF := Aside0.mk (Option.some.inj h)
    have HN := Aside0.mk hb1
    clear h hb1
    have hlen : l0.length ≤ 100000000 := HN.out.1
    go_enter Tryd.func19, Tryd.ntmps19
    go_wp2
    try simp only [Act.put, List.setIfInBounds_toArray, List.set_cons_succ, List.set_cons_zero]
    go_loopg [3, 4] l0.length (fun kq v3 v4 wr => ∃ (k : Nat) (cs : ByteArray), v3 = .string cs ∧ v4 = .int .i64 k ∧ k ≤ l0.length ∧ Aside0 (kq = l0.length - k) ∧ Aside0 (cs.data.toList = faultsB (l0.take k)) ∧ Aside0 (Below w.heap.size w wr))
    case atStart => exact ⟨0, _, rfl, rfl, by omega, ⟨by omega⟩, ⟨by simp [faultsB]⟩, ⟨Below.refl _ _⟩⟩
    case round =>
      obtain ⟨k, cs, rfl, rfl, hk, HQ, HCS, HB⟩ := hrel
      by_cases hlt : k < l0.length
      · have hi0 : 0 ≤ (k : Int) := by omega
        have hi1 : (k : Int) < l0.length := by omega
        obtain ⟨ad, e, x0, x1, x2, x3⟩ := at_T40 (Kd.C_below HR0.out HB.out) k hi0 hi1
        cases e
        have hto : (k : Int).toNat = k := by omega
        simp only [hto] at x0 x1 x2 x3
        clear hto
        generalize hy : rd_T40 l0 (k : Int) = y at x0 x1 x2 x3
        have hyk : y = l0[k] := by rw [← hy]; simp [rd_T40, hlt]
        clear hy
        have hwy : wfF y = true := by rw [hyk]; exact List.all_eq_true.1 HN.out.2 _ (List.getElem_mem hlt)
        simp only [wfF, Bool.and_eq_true] at hwy
        have HW := Aside0.mk hwy
        have HYK := Aside0.mk hyk
        have s0 := numB_size y.f0 hwy.1.1.1
        have s1 := numB_size y.f1 hwy.1.1.2
        have s2 := numB_size y.f2 hwy.1.2
        have s3 := numB_size y.f3 hwy.2
        have s4 := wordQ_size y.f0
        have hcz : cs.size ≤ 30000000000 := by
          have h1 := faultsB_len (l0.take k) (List.all_eq_true.2 fun x hx => List.all_eq_true.1 HN.out.2 x (List.mem_of_mem_take hx))
          rw [List.length_take] at h1
          have e3 : cs.data.toList.length = cs.size := by simp
          rw [HCS.out] at e3
          omega
        have HQW := Aside0.mk (words_f y.f0)
        have HQE := Aside0.mk (show faultB y = faultBQ y (wordQ y.f0) from rfl)
        generalize wordQ y.f0 = q at s4 HQW HQE
        clear hwy hyk
        have z0 : (9223372036854775807 < cs.size + 6) = False := eq_false (by omega)
        have z1 : (9223372036854775807 < cs.size + 6 + (numB y.f0).size) = False := eq_false (by omega)
        have z2 : (9223372036854775807 < cs.size + 6 + (numB y.f0).size + 4) = False := eq_false (by omega)
        have z3 : (9223372036854775807 < cs.size + 6 + (numB y.f0).size + 4 + (numB y.f1).size) = False := eq_false (by omega)
        have z4 : (9223372036854775807 < cs.size + 6 + (numB y.f0).size + 4 + (numB y.f1).size + 9) = False := eq_false (by omega)
        have z5 : (9223372036854775807 < cs.size + 6 + (numB y.f0).size + 4 + (numB y.f1).size + 9 + (numB y.f2).size) = False := eq_false (by omega)
        have z6 : (9223372036854775807 < cs.size + 6 + (numB y.f0).size + 4 + (numB y.f1).size + 9 + (numB y.f2).size + 7) = False := eq_false (by omega)
        have z7 : (9223372036854775807 < cs.size + 6 + (numB y.f0).size + 4 + (numB y.f1).size + 9 + (numB y.f2).size + 7 + (numB y.f3).size) = False := eq_false (by omega)
        have z8 : (9223372036854775807 < cs.size + 6 + (numB y.f0).size + 4 + (numB y.f1).size + 9 + (numB y.f2).size + 7 + (numB y.f3).size + 2) = False := eq_false (by omega)
        have z9 : (9223372036854775807 < cs.size + 6 + (numB y.f0).size + 4 + (numB y.f1).size + 9 + (numB y.f2).size + 7 + (numB y.f3).size + 2 + q.size) = False := eq_false (by omega)
        have z10 : (9223372036854775807 < cs.size + 6 + (numB y.f0).size + 4 + (numB y.f1).size + 9 + (numB y.f2).size + 7 + (numB y.f3).size + 2 + q.size + 1) = False := eq_false (by omega)
        clear s0 s1 s2 s3 s4 hcz
        have HBX := Aside0.mk (below_alloc HB.out (.cells #[.int .i64 y.f0, .int .i64 y.f1, .int .i64 y.f2, .int .i64 y.f3] 40))
        have HOX := Aside0.mk ((MapKept.heap_alloc wr (.cells #[.int .i64 y.f0, .int .i64 y.f1, .int .i64 y.f2, .int .i64 y.f3] 40)).1)
        have TS := Aside0.mk (show ∀ w' : World, Below (wr.alloc (.cells #[.int .i64 y.f0, .int .i64 y.f1, .int .i64 y.f2, .int .i64 y.f3] 40)).heap.size (wr.alloc (.cells #[.int .i64 y.f0, .int .i64 y.f1, .int .i64 y.f2, .int .i64 y.f3] 40)) w' → (w'.cell? ⟨wr.heap.size, 0, none⟩ = some (.int .i64 y.f0) ∧ w'.cell? ⟨wr.heap.size, 1, none⟩ = some (.int .i64 y.f1) ∧ w'.cell? ⟨wr.heap.size, 2, none⟩ = some (.int .i64 y.f2) ∧ w'.cell? ⟨wr.heap.size, 3, none⟩ = some (.int .i64 y.f3)) from fun w' qq => by
          have hh := Aside0.mk ((qq.block _ (Array.getElem?_eq_some_iff.1 HOX.out).1).trans HOX.out)
          exact ⟨Lib.cell_of_heap hh.out 0, Lib.cell_of_heap hh.out 1, Lib.cell_of_heap hh.out 2, Lib.cell_of_heap hh.out 3⟩)
        go_wp2
        have HB3 := Aside0.mk (below_drew (Below.refl (wr.alloc (.cells #[.int .i64 y.f0, .int .i64 y.f1, .int .i64 y.f2, .int .i64 y.f3] 40)).heap.size (wr.alloc (.cells #[.int .i64 y.f0, .int .i64 y.f1, .int .i64 y.f2, .int .i64 y.f3] 40))))
        go_region_held3 (fun w' => w'.cell? ⟨wr.heap.size, 0, none⟩ = some (.int .i64 y.f0) ∧ w'.cell? ⟨wr.heap.size, 1, none⟩ = some (.int .i64 y.f1) ∧ w'.cell? ⟨wr.heap.size, 2, none⟩ = some (.int .i64 y.f2) ∧ w'.cell? ⟨wr.heap.size, 3, none⟩ = some (.int .i64 y.f3)) (exact TS.out _ HB3.out) (first | (go_at_call 45; refine (proofmarkref30_Num.calls 30 _ (numB _) _ (num30_f _ (by first | exact HW.out.1.1.1 | exact HW.out.1.1.2 | exact HW.out.1.2 | exact HW.out.2))).mono ?_; rintro e w' ⟨rfl, hb⟩; have n2 := Aside0.mk (below_step HB3.out hb); clear HB3 hb; have HB3 := n2; clear n2) | (go_at_call 46; refine (proofmarkref30_words.calls y.f0 q _ HQW.out).mono ?_; rintro e w' ⟨rfl, hd⟩; have n2 := Aside0.mk (below_step HB3.out hd.below); clear HB3 hd; have HB3 := n2; clear n2))
        all_goals (
          go_wp2
          go_roundg (l0.length - (k + 1))
          case measure => have h8 := HQ.out; have h9 := hlt; clear z0 z1 z2 z3 z4 z5 z6 z7 z8 z9 z10; omega
          case rel =>
            exact ⟨k + 1, _, rfl, by go_num, by omega, ⟨rfl⟩, ⟨by
              rw [faultsB_snoc l0 k hlt, ← HYK.out, HQE.out, ← HCS.out]
              unfold faultBQ errB atB modB itemB
              simp⟩, ⟨below_step HBX.out HB3.out⟩⟩)
      · obtain rfl : k = l0.length := by omega
        have HR := Aside0.mk (show r = cs by
          rw [← HF.out]
          apply ByteArray.ext
          apply Array.toList_inj.1
          rw [HCS.out, List.take_length])
        go_wp2
        go_ret
        exact ⟨by rw [HR.out]; rfl, HB.out⟩
  · rw [if_neg hb1] at h
    exact absurd h (by simp)
end Go.Proofs.YtmfekngjhiofaaaDoor.Q
