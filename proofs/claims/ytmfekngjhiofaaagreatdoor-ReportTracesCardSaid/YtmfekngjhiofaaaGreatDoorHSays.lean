/-
  HAND: report.says, and the closure that it makes.
-/
import Derived.Test.YtmfekngjhiofaaaGreatDoorQx0
import Derived.Test.YtmfekngjhiofaaaGreatDoorHFaults
set_option linter.unusedVariables false
set_option linter.unusedSimpArgs false
namespace Go.Proofs.YtmfekngjhiofaaaGreatDoor.Q
open Go.RowKit Go.Proofs.YtmfekngjhiofaaaGreatDoorW.PrintWords Go.Proofs.YtmfekngjhiofaaaGreatDoorW.PrintLast Go.Proofs.YtmfekngjhiofaaaGreatDoorW.PrintMore

set_option maxHeartbeats 1000000 in
set_option maxRecDepth 100000 in
theorem pick_calls (c o : ByteArray) (b : Nat) (k : Int) (w : World) (h0 : w.cell? ⟨b, 0, none⟩ = some (.int .i64 k)) :
    Calls Tryz.prog 75 #[.string c, .string o, .pointer (some ⟨b, 0, none⟩)] w fun e w' => e = .returned (.string (if k = 10 then c else o)) ∧ w' = w := by
  by_cases hk : k = 10
  · subst hk
    go_enter Tryz.func75, Tryz.ntmps75
    go_wp2
    go_ret
    exact ⟨by rfl, rfl⟩
  · have hb : (k == 10) = false := beq_eq_false_iff_ne.mpr hk
    go_enter Tryz.func75, Tryz.ntmps75
    go_wp2
    go_ret
    exact ⟨by first | rfl | (rw [if_neg hk]; rfl), rfl⟩
theorem pick_q (c o q : ByteArray) (b : Nat) (k : Int) (w : World) (hq : (if k = 10 then c else o) = q) (h0 : w.cell? ⟨b, 0, none⟩ = some (.int .i64 k)) :
    Calls Tryz.prog 75 #[.string c, .string o, .pointer (some ⟨b, 0, none⟩)] w fun e w' => e = .returned (.string q) ∧ w' = w := by
  subst hq; exact pick_calls c o b k w h0
theorem scells {w' : World} {f : Nat} {k a b c d : Value} {T U : TypeId} (h : w'.heap[f]? = some (.cells #[k] T (0, 0)) ∧ w'.heap[f + 1]? = some (.cells #[a, b, c, d] U (0, 0))) :
    (w'.heap[f]? = some (.cells #[k] T (0, 0)) ∧ w'.heap[f + 1]? = some (.cells #[a, b, c, d] U (0, 0))) ∧ w'.cell? ⟨f, 0, none⟩ = some k ∧ w'.cell? ⟨f + 1, 0, none⟩ = some a ∧ w'.cell? ⟨f + 1, 1, none⟩ = some b := by
  refine ⟨h, ?_, ?_, ?_⟩
  · rw [Lib.cell_of_heap h.1]; rfl
  · rw [Lib.cell_of_heap h.2]; rfl
  · rw [Lib.cell_of_heap h.2]; rfl
theorem sbelow {w1 w' : World} {f : Nat} {o o2 : Obj} (h : w1.heap[f]? = some o ∧ w1.heap[f + 1]? = some o2) (hb : Below w1.heap.size w1 w') : w'.heap[f]? = some o ∧ w'.heap[f + 1]? = some o2 :=
  ⟨(hb.block f (Array.getElem?_eq_some_iff.1 h.1).1).trans h.1, (hb.block (f + 1) (Array.getElem?_eq_some_iff.1 h.2).1).trans h.2⟩
theorem scells4 {w' : World} {f : Nat} {k a b c d : Value} {T U : TypeId} (h : w'.heap[f]? = some (.cells #[k] T (0, 0)) ∧ w'.heap[f + 1]? = some (.cells #[a, b, c, d] U (0, 0))) :
    (w'.heap[f]? = some (.cells #[k] T (0, 0)) ∧ w'.heap[f + 1]? = some (.cells #[a, b, c, d] U (0, 0))) ∧ w'.cell? ⟨f, 0, none⟩ = some k ∧ w'.cell? ⟨f + 1, 1, none⟩ = some b ∧ w'.cell? ⟨f + 1, 3, none⟩ = some d := by
  refine ⟨h, ?_, ?_, ?_⟩
  · rw [Lib.cell_of_heap h.1]; rfl
  · rw [Lib.cell_of_heap h.2]; rfl
  · rw [Lib.cell_of_heap h.2]; rfl
def saysB (kind : Int) (vk : Int) (vK : Int) (n : Nat) : ByteArray :=
  if vk = 1 then (((if kind = 10 then (⟨#[114, 101, 97, 99, 104, 101, 100]⟩ : ByteArray) else (⟨#[118, 105, 111, 108, 97, 116, 101, 100]⟩ : ByteArray)) ++ (⟨#[32, 105, 110, 32]⟩ : ByteArray)) ++ numB vK) ++ (⟨#[32, 99, 121, 99, 108, 101, 115]⟩ : ByteArray)
  else if vk = 2 then
    if vK = 0 ∨ 0 < n then (((if kind = 10 then (⟨#[110, 101, 118, 101, 114, 32, 114, 101, 97, 99, 104, 101, 100]⟩ : ByteArray) else (⟨#[112, 114, 111, 118, 101, 100]⟩ : ByteArray)) ++ (⟨#[32, 98, 121, 32]⟩ : ByteArray)) ++ numB (n : Int)) ++ (⟨#[32, 99, 108, 97, 117, 115, 101, 115]⟩ : ByteArray)
    else ((if kind = 10 then (⟨#[110, 101, 118, 101, 114, 32, 114, 101, 97, 99, 104, 101, 100]⟩ : ByteArray) else (⟨#[112, 114, 111, 118, 101, 100]⟩ : ByteArray)) ++ (⟨#[32, 97, 116, 32, 100, 101, 112, 116, 104, 32]⟩ : ByteArray)) ++ numB vK
  else if vk = 3 then (⟨#[117, 110, 100, 111, 110, 101]⟩ : ByteArray) else if kind = 9 then (⟨#[97, 115, 115, 117, 109, 101, 100]⟩ : ByteArray) else (⟨#[110, 111, 116, 32, 116, 111, 108, 100]⟩ : ByteArray)
set_option maxHeartbeats 4000000 in
set_option maxRecDepth 100000 in
theorem says_one (kind vk vK : Int) (A1 A2 : Option Addr) (n1 n2 c1 c2 : Nat) (w : World) (hG : Tab w) (hK : (Lit.int .i64 vK).wf = true) (h1 : vk = 1) :
    Calls Tryz.prog 57 #[.int .i64 kind, .agg #[.int .i64 vk, .int .i64 vK, .slice A1 n1 c1, .slice A2 n2 c2]] w fun e w' => e = .returned (.string (saysB kind vk vK n2)) ∧ Below w.heap.size w w' := by
  subst h1
  have HG := Aside0.mk hG
  clear hG
  go_enter Tryz.func57, Tryz.ntmps57
  go_wp2
  have hblk := sblocks w (.cells #[.int .i64 kind] 3) (.cells #[.int .i64 1, .int .i64 vK, .slice A1 n1 c1, .slice A2 n2 c2] 54)
  have hB0 : Below w.heap.size w ((w.alloc (.cells #[.int .i64 kind] 3)).alloc (.cells #[.int .i64 1, .int .i64 vK, .slice A1 n1 c1, .slice A2 n2 c2] 54)).drew := below_drew (below_alloc (below_alloc (Below.refl _ _) _) _)
  have HT := Aside0.mk (tab_below HG.out hB0)
  have hb2 := Aside0.mk hB0
  have hS0 := scells (w' := ((w.alloc (.cells #[.int .i64 kind] 3)).alloc (.cells #[.int .i64 1, .int .i64 vK, .slice A1 n1 c1, .slice A2 n2 c2] 54)).drew) hblk
  clear hB0 hblk
  obtain ⟨q, hq⟩ : ∃ q : ByteArray, (if kind = 10 then (⟨#[114, 101, 97, 99, 104, 101, 100]⟩ : ByteArray) else ⟨#[118, 105, 111, 108, 97, 116, 101, 100]⟩) = q := ⟨_, rfl⟩
  have hqs : q.size ≤ 8 := by rw [← hq]; split <;> decide
  have s0 := numB_size vK hK
  have z0 : (9223372036854775807 < q.size + 4) = False := eq_false (by omega)
  have z1 : (9223372036854775807 < q.size + 4 + (numB vK).size) = False := eq_false (by omega)
  have z2 : (9223372036854775807 < q.size + 4 + (numB vK).size + 7) = False := eq_false (by omega)
  have HQ := Aside0.mk hq
  clear hq
  go_region_held3 (fun w' => (w'.heap[w.heap.size]? = some (.cells #[.int .i64 kind] 3 (0, 0)) ∧ w'.heap[w.heap.size + 1]? = some (.cells #[.int .i64 1, .int .i64 vK, .slice A1 n1 c1, .slice A2 n2 c2] 54 (0, 0))) ∧ w'.cell? ⟨w.heap.size, 0, none⟩ = some (.int .i64 kind) ∧ w'.cell? ⟨w.heap.size + 1, 0, none⟩ = some (.int .i64 1) ∧ w'.cell? ⟨w.heap.size + 1, 1, none⟩ = some (.int .i64 vK)) (first | exact hS0 | exact scells (sbelow (hb := hb) (And.left (by assumption))) | assumption) (first | (go_at_call 75; refine (pick_q _ _ q _ kind _ HQ.out (And.left (And.right (by assumption)))).mono ?_; rintro e w' ⟨rfl, rfl⟩) | (go_at_call 33; refine (strconv_Itoa.calls _ (numB _) _ HT.out (itoa_f _ hK)).mono ?_; rintro e w' ⟨rfl, hb⟩; have n2 := Aside0.mk (below_step hb2.out hb); clear hb2; have hb2 := n2; clear n2))
  all_goals (
    have hr : saysB kind 1 vK n2 = ((q ++ (⟨#[32, 105, 110, 32]⟩ : ByteArray)) ++ numB vK) ++ (⟨#[32, 99, 121, 99, 108, 101, 115]⟩ : ByteArray) := by unfold saysB; rw [if_pos rfl, HQ.out]
    have HR := Aside0.mk hr
    clear hr
    go_wp2
    go_ret
    exact ⟨by rw [HR.out]; rfl, hb2.out⟩)
set_option maxHeartbeats 4000000 in
set_option maxRecDepth 100000 in
theorem says_rest (kind vk vK : Int) (A1 A2 : Option Addr) (n1 n2 c1 c2 : Nat) (w : World) (h1 : vk ≠ 1) (h2 : vk ≠ 2) :
    Calls Tryz.prog 57 #[.int .i64 kind, .agg #[.int .i64 vk, .int .i64 vK, .slice A1 n1 c1, .slice A2 n2 c2]] w fun e w' => e = .returned (.string (saysB kind vk vK n2)) ∧ Below w.heap.size w w' := by
  have b1 : (vk == 1) = false := beq_eq_false_iff_ne.mpr h1
  have b2 : (vk == 2) = false := beq_eq_false_iff_ne.mpr h2
  by_cases h3 : vk = 3
  · have HR := Aside0.mk (show saysB kind vk vK n2 = (⟨#[117, 110, 100, 111, 110, 101]⟩ : ByteArray) by unfold saysB; rw [if_neg h1, if_neg h2, if_pos h3])
    have b3 : (vk == 3) = true := beq_iff_eq.mpr h3
    clear h1 h2 h3
    go_enter Tryz.func57, Tryz.ntmps57
    go_wp2
    go_ret
    exact ⟨by rw [HR.out]; rfl, below_alloc (below_alloc (Below.refl _ _) _) _⟩
  · have b3 : (vk == 3) = false := beq_eq_false_iff_ne.mpr h3
    by_cases h9 : kind = 9
    · have HR := Aside0.mk (show saysB kind vk vK n2 = (⟨#[97, 115, 115, 117, 109, 101, 100]⟩ : ByteArray) by unfold saysB; rw [if_neg h1, if_neg h2, if_neg h3, if_pos h9])
      have b4 : (kind == 9) = true := beq_iff_eq.mpr h9
      clear h1 h2 h3 h9
      go_enter Tryz.func57, Tryz.ntmps57
      go_wp2
      go_ret
      exact ⟨by rw [HR.out]; rfl, below_alloc (below_alloc (Below.refl _ _) _) _⟩
    · have HR := Aside0.mk (show saysB kind vk vK n2 = (⟨#[110, 111, 116, 32, 116, 111, 108, 100]⟩ : ByteArray) by unfold saysB; rw [if_neg h1, if_neg h2, if_neg h3, if_neg h9])
      have b4 : (kind == 9) = false := beq_eq_false_iff_ne.mpr h9
      clear h1 h2 h3 h9
      go_enter Tryz.func57, Tryz.ntmps57
      go_wp2
      go_ret
      exact ⟨by rw [HR.out]; rfl, below_alloc (below_alloc (Below.refl _ _) _) _⟩
set_option maxHeartbeats 4000000 in
set_option maxRecDepth 100000 in
theorem says_by0 (kind vK : Int) (A1 A2 : Option Addr) (n1 n2 c1 c2 : Nat) (w : World) (hG : Tab w) (hK : (Lit.int .i64 vK).wf = true) (hn : n2 ≤ 9223372036854775807) (h : vK = 0) :
    Calls Tryz.prog 57 #[.int .i64 kind, .agg #[.int .i64 2, .int .i64 vK, .slice A1 n1 c1, .slice A2 n2 c2]] w fun e w' => e = .returned (.string (saysB kind 2 vK n2)) ∧ Below w.heap.size w w' := by
  have HG := Aside0.mk hG
  clear hG
  have hnw : (Lit.int .i64 (n2 : Int)).wf = true := by
    have h1 : IntKind.i64.min ≤ (n2 : Int) ∧ (n2 : Int) ≤ 9223372036854775807 := by rw [show IntKind.i64.min = -9223372036854775808 by decide]; omega
    simpa [Lit.wf] using h1
  obtain ⟨q, hq⟩ : ∃ q : ByteArray, (if kind = 10 then (⟨#[110, 101, 118, 101, 114, 32, 114, 101, 97, 99, 104, 101, 100]⟩ : ByteArray) else (⟨#[112, 114, 111, 118, 101, 100]⟩ : ByteArray)) = q := ⟨_, rfl⟩
  have HR := Aside0.mk (show saysB kind 2 vK n2 = ((q ++ (⟨#[32, 98, 121, 32]⟩ : ByteArray)) ++ numB (n2 : Int)) ++ (⟨#[32, 99, 108, 97, 117, 115, 101, 115]⟩ : ByteArray) by unfold saysB; rw [if_neg (by decide), if_pos rfl, if_pos (.inl h), hq])
  have b1 : (vK == 0) = true := beq_iff_eq.mpr h
  clear h
  have hqs : q.size ≤ 13 := by rw [← hq]; split <;> decide
  have s0 := numB_size (n2 : Int) hnw
  have z0 : (9223372036854775807 < q.size + 4) = False := eq_false (by omega)
  have z1 : (9223372036854775807 < q.size + 4 + (numB (n2 : Int)).size) = False := eq_false (by omega)
  have z2 : (9223372036854775807 < q.size + 4 + (numB (n2 : Int)).size + 8) = False := eq_false (by omega)
  have HQ := Aside0.mk hq
  clear hq
  go_enter Tryz.func57, Tryz.ntmps57
  go_wp2
  have hblk := sblocks w (.cells #[.int .i64 kind] 3) (.cells #[.int .i64 2, .int .i64 vK, .slice A1 n1 c1, .slice A2 n2 c2] 54)
  have hB0 : Below w.heap.size w ((w.alloc (.cells #[.int .i64 kind] 3)).alloc (.cells #[.int .i64 2, .int .i64 vK, .slice A1 n1 c1, .slice A2 n2 c2] 54)).drew := below_drew (below_alloc (below_alloc (Below.refl _ _) _) _)
  have HT := Aside0.mk (tab_below HG.out hB0)
  have hb2 := Aside0.mk hB0
  have hS0 := scells4 (w' := ((w.alloc (.cells #[.int .i64 kind] 3)).alloc (.cells #[.int .i64 2, .int .i64 vK, .slice A1 n1 c1, .slice A2 n2 c2] 54)).drew) hblk
  clear hB0 hblk
  go_region_held3 (fun w' => (w'.heap[w.heap.size]? = some (.cells #[.int .i64 kind] 3 (0, 0)) ∧ w'.heap[w.heap.size + 1]? = some (.cells #[.int .i64 2, .int .i64 vK, .slice A1 n1 c1, .slice A2 n2 c2] 54 (0, 0))) ∧ w'.cell? ⟨w.heap.size, 0, none⟩ = some (.int .i64 kind) ∧ w'.cell? ⟨w.heap.size + 1, 1, none⟩ = some (.int .i64 vK) ∧ w'.cell? ⟨w.heap.size + 1, 3, none⟩ = some (.slice A2 n2 c2)) (first | exact hS0 | exact scells4 (sbelow (hb := hb) (And.left (by assumption))) | assumption) (first | (go_at_call 75; refine (pick_q _ _ q _ kind _ HQ.out (And.left (And.right (by assumption)))).mono ?_; rintro e w' ⟨rfl, rfl⟩) | (go_at_call 33; refine (strconv_Itoa.calls _ (numB _) _ HT.out (itoa_f _ hnw)).mono ?_; rintro e w' ⟨rfl, hb⟩; have n2 := Aside0.mk (below_step hb2.out hb); clear hb2; have hb2 := n2; clear n2))
  all_goals (
    go_wp2
    go_ret
    exact ⟨by rw [HR.out]; rfl, hb2.out⟩)
set_option maxHeartbeats 4000000 in
set_option maxRecDepth 100000 in
theorem says_depth (kind vK : Int) (A1 A2 : Option Addr) (n1 n2 c1 c2 : Nat) (w : World) (hG : Tab w) (hK : (Lit.int .i64 vK).wf = true) (hn : n2 ≤ 9223372036854775807) (h : vK ≠ 0) (h0 : n2 = 0) :
    Calls Tryz.prog 57 #[.int .i64 kind, .agg #[.int .i64 2, .int .i64 vK, .slice A1 n1 c1, .slice A2 n2 c2]] w fun e w' => e = .returned (.string (saysB kind 2 vK n2)) ∧ Below w.heap.size w w' := by
  have HG := Aside0.mk hG
  clear hG
  have hnw : (Lit.int .i64 (n2 : Int)).wf = true := by
    have h1 : IntKind.i64.min ≤ (n2 : Int) ∧ (n2 : Int) ≤ 9223372036854775807 := by rw [show IntKind.i64.min = -9223372036854775808 by decide]; omega
    simpa [Lit.wf] using h1
  obtain ⟨q, hq⟩ : ∃ q : ByteArray, (if kind = 10 then (⟨#[110, 101, 118, 101, 114, 32, 114, 101, 97, 99, 104, 101, 100]⟩ : ByteArray) else (⟨#[112, 114, 111, 118, 101, 100]⟩ : ByteArray)) = q := ⟨_, rfl⟩
  have HR := Aside0.mk (show saysB kind 2 vK n2 = (q ++ (⟨#[32, 97, 116, 32, 100, 101, 112, 116, 104, 32]⟩ : ByteArray)) ++ numB vK by unfold saysB; rw [if_neg (by decide), if_pos rfl, if_neg (by omega), hq])
  have b1 : (vK == 0) = false := beq_eq_false_iff_ne.mpr h
  have b2 : ((0 : Int) < (n2 : Int)) = False := eq_false (by omega)
  have b3 : (0 < n2) = False := eq_false (by omega)
  clear h h0
  have hqs : q.size ≤ 13 := by rw [← hq]; split <;> decide
  have s0 := numB_size vK hK
  have z0 : (9223372036854775807 < q.size + 10) = False := eq_false (by omega)
  have z1 : (9223372036854775807 < q.size + 10 + (numB vK).size) = False := eq_false (by omega)
  have HQ := Aside0.mk hq
  clear hq
  go_enter Tryz.func57, Tryz.ntmps57
  go_wp2
  have hblk := sblocks w (.cells #[.int .i64 kind] 3) (.cells #[.int .i64 2, .int .i64 vK, .slice A1 n1 c1, .slice A2 n2 c2] 54)
  have hB0 : Below w.heap.size w ((w.alloc (.cells #[.int .i64 kind] 3)).alloc (.cells #[.int .i64 2, .int .i64 vK, .slice A1 n1 c1, .slice A2 n2 c2] 54)).drew := below_drew (below_alloc (below_alloc (Below.refl _ _) _) _)
  have HT := Aside0.mk (tab_below HG.out hB0)
  have hb2 := Aside0.mk hB0
  have hS0 := scells4 (w' := ((w.alloc (.cells #[.int .i64 kind] 3)).alloc (.cells #[.int .i64 2, .int .i64 vK, .slice A1 n1 c1, .slice A2 n2 c2] 54)).drew) hblk
  clear hB0 hblk
  go_region_held3 (fun w' => (w'.heap[w.heap.size]? = some (.cells #[.int .i64 kind] 3 (0, 0)) ∧ w'.heap[w.heap.size + 1]? = some (.cells #[.int .i64 2, .int .i64 vK, .slice A1 n1 c1, .slice A2 n2 c2] 54 (0, 0))) ∧ w'.cell? ⟨w.heap.size, 0, none⟩ = some (.int .i64 kind) ∧ w'.cell? ⟨w.heap.size + 1, 1, none⟩ = some (.int .i64 vK) ∧ w'.cell? ⟨w.heap.size + 1, 3, none⟩ = some (.slice A2 n2 c2)) (first | exact hS0 | exact scells4 (sbelow (hb := hb) (And.left (by assumption))) | assumption) (first | (go_at_call 75; refine (pick_q _ _ q _ kind _ HQ.out (And.left (And.right (by assumption)))).mono ?_; rintro e w' ⟨rfl, rfl⟩) | (go_at_call 33; refine (strconv_Itoa.calls _ (numB _) _ HT.out (itoa_f _ hK)).mono ?_; rintro e w' ⟨rfl, hb⟩; have n2 := Aside0.mk (below_step hb2.out hb); clear hb2; have hb2 := n2; clear n2))
  all_goals (
    go_wp2
    go_ret
    exact ⟨by rw [HR.out]; rfl, hb2.out⟩)
set_option maxHeartbeats 4000000 in
set_option maxRecDepth 100000 in
theorem says_by1 (kind vK : Int) (A1 A2 : Option Addr) (n1 n2 c1 c2 : Nat) (w : World) (hG : Tab w) (hK : (Lit.int .i64 vK).wf = true) (hn : n2 ≤ 9223372036854775807) (h : vK ≠ 0) (h0 : 0 < n2) :
    Calls Tryz.prog 57 #[.int .i64 kind, .agg #[.int .i64 2, .int .i64 vK, .slice A1 n1 c1, .slice A2 n2 c2]] w fun e w' => e = .returned (.string (saysB kind 2 vK n2)) ∧ Below w.heap.size w w' := by
  have HG := Aside0.mk hG
  clear hG
  have hnw : (Lit.int .i64 (n2 : Int)).wf = true := by
    have h1 : IntKind.i64.min ≤ (n2 : Int) ∧ (n2 : Int) ≤ 9223372036854775807 := by rw [show IntKind.i64.min = -9223372036854775808 by decide]; omega
    simpa [Lit.wf] using h1
  obtain ⟨q, hq⟩ : ∃ q : ByteArray, (if kind = 10 then (⟨#[110, 101, 118, 101, 114, 32, 114, 101, 97, 99, 104, 101, 100]⟩ : ByteArray) else (⟨#[112, 114, 111, 118, 101, 100]⟩ : ByteArray)) = q := ⟨_, rfl⟩
  have HR := Aside0.mk (show saysB kind 2 vK n2 = ((q ++ (⟨#[32, 98, 121, 32]⟩ : ByteArray)) ++ numB (n2 : Int)) ++ (⟨#[32, 99, 108, 97, 117, 115, 101, 115]⟩ : ByteArray) by unfold saysB; rw [if_neg (by decide), if_pos rfl, if_pos (.inr h0), hq])
  have b1 : (vK == 0) = false := beq_eq_false_iff_ne.mpr h
  have b2 : ((0 : Int) < (n2 : Int)) = True := eq_true (by omega)
  have b3 : (0 < n2) = True := eq_true h0
  clear h h0
  have hqs : q.size ≤ 13 := by rw [← hq]; split <;> decide
  have s0 := numB_size (n2 : Int) hnw
  have z0 : (9223372036854775807 < q.size + 4) = False := eq_false (by omega)
  have z1 : (9223372036854775807 < q.size + 4 + (numB (n2 : Int)).size) = False := eq_false (by omega)
  have z2 : (9223372036854775807 < q.size + 4 + (numB (n2 : Int)).size + 8) = False := eq_false (by omega)
  have HQ := Aside0.mk hq
  clear hq
  go_enter Tryz.func57, Tryz.ntmps57
  go_wp2
  have hblk := sblocks w (.cells #[.int .i64 kind] 3) (.cells #[.int .i64 2, .int .i64 vK, .slice A1 n1 c1, .slice A2 n2 c2] 54)
  have hB0 : Below w.heap.size w ((w.alloc (.cells #[.int .i64 kind] 3)).alloc (.cells #[.int .i64 2, .int .i64 vK, .slice A1 n1 c1, .slice A2 n2 c2] 54)).drew := below_drew (below_alloc (below_alloc (Below.refl _ _) _) _)
  have HT := Aside0.mk (tab_below HG.out hB0)
  have hb2 := Aside0.mk hB0
  have hS0 := scells4 (w' := ((w.alloc (.cells #[.int .i64 kind] 3)).alloc (.cells #[.int .i64 2, .int .i64 vK, .slice A1 n1 c1, .slice A2 n2 c2] 54)).drew) hblk
  clear hB0 hblk
  go_region_held3 (fun w' => (w'.heap[w.heap.size]? = some (.cells #[.int .i64 kind] 3 (0, 0)) ∧ w'.heap[w.heap.size + 1]? = some (.cells #[.int .i64 2, .int .i64 vK, .slice A1 n1 c1, .slice A2 n2 c2] 54 (0, 0))) ∧ w'.cell? ⟨w.heap.size, 0, none⟩ = some (.int .i64 kind) ∧ w'.cell? ⟨w.heap.size + 1, 1, none⟩ = some (.int .i64 vK) ∧ w'.cell? ⟨w.heap.size + 1, 3, none⟩ = some (.slice A2 n2 c2)) (first | exact hS0 | exact scells4 (sbelow (hb := hb) (And.left (by assumption))) | assumption) (first | (go_at_call 75; refine (pick_q _ _ q _ kind _ HQ.out (And.left (And.right (by assumption)))).mono ?_; rintro e w' ⟨rfl, rfl⟩) | (go_at_call 33; refine (strconv_Itoa.calls _ (numB _) _ HT.out (itoa_f _ hnw)).mono ?_; rintro e w' ⟨rfl, hb⟩; have n2 := Aside0.mk (below_step hb2.out hb); clear hb2; have hb2 := n2; clear n2))
  all_goals (
    go_wp2
    go_ret
    exact ⟨by rw [HR.out]; rfl, hb2.out⟩)
/-- report.says, whatever the kind and the verdict. -/
theorem says_all (kind vk vK : Int) (A1 A2 : Option Addr) (n1 n2 c1 c2 : Nat) (w : World) (hG : Tab w) (hK : (Lit.int .i64 vK).wf = true) (hn : n2 ≤ 9223372036854775807) :
    Calls Tryz.prog 57 #[.int .i64 kind, .agg #[.int .i64 vk, .int .i64 vK, .slice A1 n1 c1, .slice A2 n2 c2]] w fun e w' => e = .returned (.string (saysB kind vk vK n2)) ∧ Below w.heap.size w w' := by
  by_cases h1 : vk = 1
  · exact says_one kind vk vK A1 A2 n1 n2 c1 c2 w hG hK h1
  · by_cases h2 : vk = 2
    · subst h2
      by_cases h3 : vK = 0
      · exact says_by0 kind vK A1 A2 n1 n2 c1 c2 w hG hK hn h3
      · by_cases h4 : n2 = 0
        · exact says_depth kind vK A1 A2 n1 n2 c1 c2 w hG hK hn h3 h4
        · exact says_by1 kind vK A1 A2 n1 n2 c1 c2 w hG hK hn h3 (by omega)
    · exact says_rest kind vk vK A1 A2 n1 n2 c1 c2 w h1 h2
end Go.Proofs.YtmfekngjhiofaaaGreatDoor.Q
