/-
  HELPER.
-/
import Derived.Test.YtenogedclignmaaDoorPlKA
import Derived.Test.YtenogedclignmaaDoorPlK3
set_option linter.unusedVariables false
set_option linter.unusedSimpArgs false
namespace Go.Proofs.YtenogedclignmaaDoor.Q
open Go.RowKit Go.Proofs.YtenogedclignmaaDoorW.PrintWords Go.Proofs.YtenogedclignmaaDoorW.PrintLast Go.Proofs.YtenogedclignmaaDoorW.PrintMore
attribute [local go_sem] max2_int min2_int max_two min_two
set_option linter.unusedVariables false
set_option linter.unusedSimpArgs false
def proofmarklaw02_few.f (a0 : ByteArray) : Option (ByteArray) := if 0 ≤ (mn (a0.size : Int) 3000) then (if (mn (a0.size : Int) 3000) ≤ (a0.size : Int) then (some (a0.extract 0 ((mn (a0.size : Int) 3000) : Int).toNat)) else (none)) else (none)
set_option maxHeartbeats 8000000 in
set_option maxRecDepth 100000 in
theorem proofmarklaw02_few.calls (a0 : ByteArray) (r : ByteArray) (w : World) (h : proofmarklaw02_few.f a0 = some r) :
  Calls Tryd.prog 10 #[.string a0] w fun e w' => e = .returned (.string r) ∧ Below w.heap.size w w' := by
 have HB := aS (bR w.heap.size w)
 have H : (if 0 ≤ (mn (a0.size : Int) 3000) then (if (mn (a0.size : Int) 3000) ≤ (a0.size : Int) then (some (a0.extract 0 ((mn (a0.size : Int) 3000) : Int).toNat)) else (none)) else (none)) = some r := h
 clear h
 obtain ⟨ji2, hji2⟩ : ∃ j_ : Int, (mn (a0.size : Int) 3000) = j_ := ⟨_, rfl⟩
 replace H : (if 0 ≤ (ji2) then (if (ji2) ≤ (a0.size : Int) then (some (a0.extract 0 ((ji2) : Int).toNat)) else (none)) else (none)) = some r := by first | (rw [hji2] at H; exact H) | (simp only [hji2] at H ⊢; exact H)
 (try (have hji2h : ji2 ≤ 3000 := by (rw [← hji2]; unfold mn; (repeat' split) <;> omega)))
 (try (have hji2g : ji2 ≤ 64 := by omega))
 (try (have hji2l : 0 ≤ ji2 := by (rw [← hji2]; unfold mn; (repeat' split) <;> omega)))
 (try (have hji2m : 0 ≤ ji2 := by omega))
 have hji2_ : (if 3000 < (a0.size : Int) then 3000 else (a0.size : Int)) = ji2 := hji2
 by_cases c3 : 0 ≤ (ji2)
 ·rw [if_pos c3] at H
  have c3b0 := eq_true c3
  have c3b1 : decide (0 ≤ (ji2)) = true := decide_eq_true c3
  clear c3
  by_cases c4 : (ji2) ≤ (a0.size : Int)
  ·rw [if_pos c4] at H
   have c4b0 := eq_true c4
   have c4b1 : decide ((ji2) ≤ (a0.size : Int)) = true := decide_eq_true c4
   clear c4
   obtain rfl := Option.some.inj H
   go_enter Tryd.func10, Tryd.ntmps10
   go_wp2
   go_ret
   exact ⟨by first | rfl | (simp [errW_none, errW_some] <;> rfl) | (simp only [← hji2]; first | rfl | (simp [errW_none, errW_some] <;> rfl)) | (simp [*, errW_none, errW_some] <;> rfl), by repeat (first | (with_reducible first | exact HB.out | apply below_alloc | apply pw_below_drewN | apply below_drew1) | exact HB.out)⟩
  ·rw [if_neg c4] at H
   exact absurd H (by simp)
 ·rw [if_neg c3] at H
  exact absurd H (by simp)
def proofmarklaw02_begins.l0 : Nat → ByteArray → List ByteArray → Int → Option (Bool)
 | 0, _, _, _ => none
 | k + 1, x0, x3, x4 => if x4 < (x3.length : Int) then (if 0 ≤ x4 then (if (rdOf ByteArray.empty x3 x4).toList = x0.toList then (some true) else (proofmarklaw02_begins.l0 k x0 x3 (wrap64 (x4 + 1)))) else (none)) else (some false)
def proofmarklaw02_begins.f (k : Nat) (a0 : ByteArray) : Option (Bool) := proofmarklaw02_begins.l0 k a0 (([(⟨#[119, 105, 114, 101]⟩ : ByteArray), (⟨#[114, 101, 103]⟩ : ByteArray), (⟨#[109, 101, 109]⟩ : ByteArray), (⟨#[105, 110, 115, 116]⟩ : ByteArray), (⟨#[97, 115, 115, 101, 114, 116]⟩ : ByteArray), (⟨#[97, 115, 115, 117, 109, 101]⟩ : ByteArray), (⟨#[99, 111, 118, 101, 114]⟩ : ByteArray), (⟨#[110, 101, 120, 116]⟩ : ByteArray), (⟨#[112, 117, 116]⟩ : ByteArray)] : List ByteArray)) 0
def proofmarkref01_Letter.f (a0 : Int) : Option (Bool) := if a0 ≥ 97 then (if a0 ≤ 122 then (some true) else (if a0 ≥ 65 then (if a0 ≤ 90 then (some true) else (some (a0 == 95))) else (some (a0 == 95)))) else (if a0 ≥ 65 then (if a0 ≤ 90 then (some true) else (some (a0 == 95))) else (some (a0 == 95)))
mutual
def syn_deep.l0 : Nat → Int → List (S56) → Int → Int → Option (Int)
 | 0, _, _, _, _ => none
 | k + 1, x3, x7, x8, x9 => if x9 < x8 then (if 0 ≤ x9 then (if x9 < (x7.length : Int) then ((syn_deep.f k ((rd_T56 x7 x9).f0) ((rd_T56 x7 x9).f1.f0) ((rd_T56 x7 x9).f1.f1) ((rd_T56 x7 x9).f2.f0) ((rd_T56 x7 x9).f2.f1) ((rd_T56 x7 x9).f3.f0) ((rd_T56 x7 x9).f3.f1) ((rd_T56 x7 x9).f4.f0) ((rd_T56 x7 x9).f4.f1) ((rd_T56 x7 x9).f5) ((rd_T56 x7 x9).f6)).bind fun t189 => (syn_deep.l0 k (mx x3 (wrap64 (1 + t189))) x7 x8 (wrap64 (x9 + 1)))) else (none)) else (none)) else (some x3)
def syn_deep.f : Nat → Int → ByteArray → Int → ByteArray → Int → ByteArray → Int → ByteArray → Int → ByteArray → List (S56) → Option (Int)
 | 0, _, _, _, _, _, _, _, _, _, _, _ => none
 | k + 1, a0_0, a0_1, a0_2, a0_3, a0_4, a0_5, a0_6, a0_7, a0_8, a0_9, l0_10 => syn_deep.l0 k 0 l0_10 (l0_10.length : Int) 0
end
set_option maxHeartbeats 8000000 in
set_option maxRecDepth 100000 in
theorem syn_deep.calls (k : Nat) : ∀ (a0_0 : Int) (a0_1 : ByteArray) (a0_2 : Int) (a0_3 : ByteArray) (a0_4 : Int) (a0_5 : ByteArray) (a0_6 : Int) (a0_7 : ByteArray) (a0_8 : Int) (a0_9 : ByteArray) (A0_10 : Option Addr) (c0_10 : Nat) (l0_10 : List (S56)) (r : Int) (w : World) (hr0_10 : Kd.C k56 w A0_10 l0_10.length l0_10) (hc0_10 : l0_10.length ≤ c0_10) (h : syn_deep.f k a0_0 a0_1 a0_2 a0_3 a0_4 a0_5 a0_6 a0_7 a0_8 a0_9 l0_10 = some r),
  Calls Tryd.prog 86 #[.agg #[.int .i64 a0_0, .string a0_1, .int .i64 a0_2, .string a0_3, .int .i64 a0_4, .string a0_5, .int .i64 a0_6, .string a0_7, .int .i64 a0_8, .string a0_9, .slice A0_10 l0_10.length c0_10]] w fun e w' => e = .returned (.int .i64 r) ∧ Below w.heap.size w w' := by
 induction k using Nat.strongRecOn with
 | _ k ih =>
 intro a0_0 a0_1 a0_2 a0_3 a0_4 a0_5 a0_6 a0_7 a0_8 a0_9 A0_10 c0_10 l0_10 r w hr0_10 hc0_10 h
 cases k with
 | zero => exact absurd h (by simp [syn_deep.f])
 | succ k =>
 simp only [syn_deep.f] at h
 have hu56 := Tryd.underlying56
 have HR0_10 := aS hr0_10
 have HC0_10 := aS hc0_10
 clear hr0_10 hc0_10
 have HB := aS (bR w.heap.size w)
 have H : (syn_deep.l0 k 0 l0_10 (l0_10.length : Int) 0) = some r := h
 clear h
 have H' := aS H
 clear H
 go_enter Tryd.func86, Tryd.ntmps86
 go_wp2_with (first | ((with_reducible refine gate_dst (N := 1) rfl ?_); refine box_event ?hg (N := 1) ?hd (cs := #[.int .i64 a0_0, .string a0_1, .int .i64 a0_2, .string a0_3, .int .i64 a0_4, .string a0_5, .int .i64 a0_6, .string a0_7, .int .i64 a0_8, .string a0_9, .slice A0_10 l0_10.length c0_10]) (t := 56) ?hr ?_; (case hd => rfl); (case hg => rfl); (case hr => first | (go_simp; done) | (go_simp; rfl)); intro gb186 hg w2 hbox hb; have n0_ := aS (below_step (by repeat (first | (with_reducible first | exact HB.out | apply below_alloc | apply pw_below_drewN | apply below_drew1) | exact HB.out)) hb); have n1_ := aS (hbox); have n2_ := aS ((by rw [hg]; exact (below_size (by repeat (first | (with_reducible first | exact HB.out | apply below_alloc | apply pw_below_drewN | apply below_drew1) | exact HB.out))) : w.heap.size ≤ gb186)); have n3_ := aS ((by rw [hg]; exact (below_size (by repeat (first | (with_reducible first | exact HB.out | apply below_alloc | apply pw_below_drewN | apply below_drew1) | exact HB.out))) : w.heap.size ≤ gb186)); clear HB; have HB := n0_; have BK186 := n1_; have GW186 := n2_; have GE186 := n3_; clear n0_ n1_ n2_ n3_; clear hb hbox hg; have hcz3_0 : w2.cell? ⟨gb186, 0, none⟩ = some (.int .i64 a0_0) := (blk_cell BK186.out 0).trans rfl; have hcz3_1 : w2.cell? ⟨gb186, 1, none⟩ = some (.string a0_1) := (blk_cell BK186.out 1).trans rfl; have hcz3_2 : w2.cell? ⟨gb186, 2, none⟩ = some (.int .i64 a0_2) := (blk_cell BK186.out 2).trans rfl; have hcz3_3 : w2.cell? ⟨gb186, 3, none⟩ = some (.string a0_3) := (blk_cell BK186.out 3).trans rfl; have hcz3_4 : w2.cell? ⟨gb186, 4, none⟩ = some (.int .i64 a0_4) := (blk_cell BK186.out 4).trans rfl; have hcz3_5 : w2.cell? ⟨gb186, 5, none⟩ = some (.string a0_5) := (blk_cell BK186.out 5).trans rfl; have hcz3_6 : w2.cell? ⟨gb186, 6, none⟩ = some (.int .i64 a0_6) := (blk_cell BK186.out 6).trans rfl; have hcz3_7 : w2.cell? ⟨gb186, 7, none⟩ = some (.string a0_7) := (blk_cell BK186.out 7).trans rfl; have hcz3_8 : w2.cell? ⟨gb186, 8, none⟩ = some (.int .i64 a0_8) := (blk_cell BK186.out 8).trans rfl; have hcz3_9 : w2.cell? ⟨gb186, 9, none⟩ = some (.string a0_9) := (blk_cell BK186.out 9).trans rfl; have hcz3_10 : w2.cell? ⟨gb186, 10, none⟩ = some (.slice A0_10 l0_10.length c0_10) := (blk_cell BK186.out 10).trans rfl; have hfz3_0 := blk_frozen BK186.out 0; have hfz3_1 := blk_frozen BK186.out 1; have hfz3_2 := blk_frozen BK186.out 2; have hfz3_3 := blk_frozen BK186.out 3; have hfz3_4 := blk_frozen BK186.out 4; have hfz3_5 := blk_frozen BK186.out 5; have hfz3_6 := blk_frozen BK186.out 6; have hfz3_7 := blk_frozen BK186.out 7; have hfz3_8 := blk_frozen BK186.out 8; have hfz3_9 := blk_frozen BK186.out 9; have hfz3_10 := blk_frozen BK186.out 10))
 try simp only [Act.put, List.setIfInBounds_toArray, List.set_cons_succ, List.set_cons_zero]
 go_loopg [3, 9] k (fun kq v3 v9 w' => ∃ (x3_1 : Int) (x9_1 : Int), v3 = .int .i64 x3_1 ∧ v9 = .int .i64 x9_1 ∧ Aside0 (syn_deep.l0 kq x3_1 l0_10 (l0_10.length : Int) x9_1 = some r) ∧ Aside0 (kq ≤ k) ∧ Aside0 (w'.heap[gb186]? = some (.cells #[.int .i64 a0_0, .string a0_1, .int .i64 a0_2, .string a0_3, .int .i64 a0_4, .string a0_5, .int .i64 a0_6, .string a0_7, .int .i64 a0_8, .string a0_9, (.slice A0_10 l0_10.length c0_10)] 56 (0, 0))) ∧ Aside0 (Below w.heap.size w w'))
 case atStart => exact ⟨(0), (0), (by first | rfl | (simp; done) | (simp [*]; done)), (by first | rfl | (simp; done) | (simp [*]; done)), H', ⟨Nat.le_refl _⟩, ⟨by (with_reducible repeat (first | refine blk_drewN ?_ _ | refine blk_drew ?_ | refine blk_alloc ?_ _)); exact BK186.out⟩, ⟨by repeat (first | (with_reducible first | exact HB.out | apply below_alloc | apply pw_below_drewN | apply below_drew1 | refine below_set ?_ GE186.out) | exact HB.out)⟩⟩
 case round =>
  clear H'
  try clear p2
  try clear hcz3_0
  try clear hcz3_1
  try clear hcz3_10
  try clear hcz3_2
  try clear hcz3_3
  try clear hcz3_4
  try clear hcz3_5
  try clear hcz3_6
  try clear hcz3_7
  try clear hcz3_8
  try clear hcz3_9
  try clear hfz3_0
  try clear hfz3_1
  try clear hfz3_10
  try clear hfz3_2
  try clear hfz3_3
  try clear hfz3_4
  try clear hfz3_5
  try clear hfz3_6
  try clear hfz3_7
  try clear hfz3_8
  try clear hfz3_9
  obtain ⟨x3_1, x9_1, rfl, rfl, HA, HK1, BK186, HB⟩ := hrel
  cases gk with
  | zero => exact absurd HA.out (by simp [syn_deep.l0])
  | succ k1 =>
   have H := HA.out
   clear HA
   simp only [syn_deep.l0] at H
   by_cases c4 : x9_1 < (l0_10.length : Int)
   ·rw [if_pos c4] at H
    have c4b0 : decide (x9_1 < (l0_10.length : Int)) = true := decide_eq_true c4
    clear c4
    by_cases c5 : 0 ≤ x9_1
    ·rw [if_pos c5] at H
     have c5b0 : decide (0 ≤ x9_1) = true := decide_eq_true c5
     clear c5
     by_cases c6 : x9_1 < (l0_10.length : Int)
     ·rw [if_pos c6] at H
      have c6b0 : decide (x9_1 < (l0_10.length : Int)) = true := decide_eq_true c6
      clear c6
      replace H := Option.bind_eq_some_iff.mp H
      obtain ⟨t189, A70, H⟩ := H
      replace H : (syn_deep.l0 k1 (mx x3_1 (wrap64 (1 + t189))) l0_10 (l0_10.length : Int) (wrap64 (x9_1 + 1))) = some r := H
      have A7 := aS A70
      clear A70
      obtain ⟨ji8, hji8⟩ : ∃ j_ : Int, (mx x3_1 (wrap64 (1 + t189))) = j_ := ⟨_, rfl⟩
      replace H : (syn_deep.l0 k1 ji8 l0_10 (l0_10.length : Int) (wrap64 (x9_1 + 1))) = some r := by first | (rw [hji8] at H; exact H) | (simp only [hji8] at H ⊢; exact H)
      (try rw [hji8] at A7)
      have hji8_ : (if x3_1 < (wrap64 (1 + t189)) then (wrap64 (1 + t189)) else x3_1) = ji8 := hji8
      have H' := aS H
      clear H
      have p187 : 0 ≤ (x9_1 : Int) := of_decide_eq_true (by first | (with_reducible assumption) | assumption)
      have q187 : x9_1 < (l0_10.length : Int) := of_decide_eq_true (by first | (with_reducible assumption) | assumption)
      obtain ⟨ad187, A187_10, c187_10, e187, hx187_0, hx187_1, hx187_2, hx187_3, hx187_4, hx187_5, hx187_6, hx187_7, hx187_8, hx187_9, hx187_10, hl187_10, hi187_10⟩ := at_T56 HR0_10.out x9_1 p187 q187
      cases e187
      replace hx187_0 := (HB.out.cell (World.block_lt_of_cell? w _ hx187_0)).trans hx187_0
      replace hx187_1 := (HB.out.cell (World.block_lt_of_cell? w _ hx187_1)).trans hx187_1
      replace hx187_2 := (HB.out.cell (World.block_lt_of_cell? w _ hx187_2)).trans hx187_2
      replace hx187_3 := (HB.out.cell (World.block_lt_of_cell? w _ hx187_3)).trans hx187_3
      replace hx187_4 := (HB.out.cell (World.block_lt_of_cell? w _ hx187_4)).trans hx187_4
      replace hx187_5 := (HB.out.cell (World.block_lt_of_cell? w _ hx187_5)).trans hx187_5
      replace hx187_6 := (HB.out.cell (World.block_lt_of_cell? w _ hx187_6)).trans hx187_6
      replace hx187_7 := (HB.out.cell (World.block_lt_of_cell? w _ hx187_7)).trans hx187_7
      replace hx187_8 := (HB.out.cell (World.block_lt_of_cell? w _ hx187_8)).trans hx187_8
      replace hx187_9 := (HB.out.cell (World.block_lt_of_cell? w _ hx187_9)).trans hx187_9
      replace hx187_10 := (HB.out.cell (World.block_lt_of_cell? w _ hx187_10)).trans hx187_10
      have HR187_10 := aS hi187_10
      have HC187_10 := aS hl187_10
      clear hi187_10 hl187_10
      replace p187 := eq_true p187
      replace q187 := eq_true q187
      go_wp2_with (first | ((with_reducible refine gate_dst (N := 5) rfl ?_); refine box_event ?hg (N := 5) ?hd (cs := #[.int .i64 0, .string (⟨#[]⟩ : ByteArray), .int .i64 0, .string (⟨#[]⟩ : ByteArray), .int .i64 0, .string (⟨#[]⟩ : ByteArray), .int .i64 0, .string (⟨#[]⟩ : ByteArray), .int .i64 0, .string (⟨#[]⟩ : ByteArray), .slice none 0 0]) (t := 56) ?hr ?_; (case hd => rfl); (case hg => rfl); (case hr => first | (go_simp; done) | (go_simp; rfl)); intro gb188 hg w9 hbox hb; have n0_ := aS (blk_below (g := gb186) (o := .cells #[.int .i64 a0_0, .string a0_1, .int .i64 a0_2, .string a0_3, .int .i64 a0_4, .string a0_5, .int .i64 a0_6, .string a0_7, .int .i64 a0_8, .string a0_9, .slice (some ad187) l0_10.length c0_10] 56 (0, 0)) (by (with_reducible repeat (first | refine blk_drewN ?_ _ | refine blk_drew ?_ | refine blk_alloc ?_ _)); exact BK186.out) hb); have n1_ := aS (below_step (by repeat (first | (with_reducible first | exact HB.out | apply below_alloc | apply pw_below_drewN | apply below_drew1 | refine below_set ?_ GE186.out) | exact HB.out)) hb); have n2_ := aS (hbox); have n3_ := aS ((by rw [hg]; exact (below_size (by repeat (first | (with_reducible first | exact HB.out | apply below_alloc | apply pw_below_drewN | apply below_drew1 | refine below_set ?_ GE186.out) | exact HB.out))) : w.heap.size ≤ gb188)); have n4_ := aS ((by rw [hg]; exact (below_size (by repeat (first | (with_reducible first | exact HB.out | apply below_alloc | apply pw_below_drewN | apply below_drew1 | refine below_set ?_ GE186.out) | exact HB.out))) : w.heap.size ≤ gb188)); have n5_ := aS ((by rw [hg]; exact Nat.ne_of_lt (blk_lt (g := gb186) (o := .cells #[.int .i64 a0_0, .string a0_1, .int .i64 a0_2, .string a0_3, .int .i64 a0_4, .string a0_5, .int .i64 a0_6, .string a0_7, .int .i64 a0_8, .string a0_9, .slice (some ad187) l0_10.length c0_10] 56 (0, 0)) (by (with_reducible repeat (first | refine blk_drewN ?_ _ | refine blk_drew ?_ | refine blk_alloc ?_ _)); exact BK186.out)) : gb186 ≠ gb188)); have n6_ := aS ((by rw [hg]; exact Nat.ne_of_gt (blk_lt (g := gb186) (o := .cells #[.int .i64 a0_0, .string a0_1, .int .i64 a0_2, .string a0_3, .int .i64 a0_4, .string a0_5, .int .i64 a0_6, .string a0_7, .int .i64 a0_8, .string a0_9, .slice (some ad187) l0_10.length c0_10] 56 (0, 0)) (by (with_reducible repeat (first | refine blk_drewN ?_ _ | refine blk_drew ?_ | refine blk_alloc ?_ _)); exact BK186.out)) : gb188 ≠ gb186)); clear BK186; clear HB; have BK186 := n0_; have HB := n1_; have BK188 := n2_; have GW188 := n3_; have GE188 := n4_; have NB186_188 := n5_; have NB188_186 := n6_; clear n0_ n1_ n2_ n3_ n4_ n5_ n6_; clear hb hbox hg; have hnb10 := NB188_186.out; have hnc10 := NB186_188.out; have hcz11_0 : w9.cell? ⟨gb188, 0, none⟩ = some (.int .i64 0) := (blk_cell BK188.out 0).trans rfl; have hcz11_1 : w9.cell? ⟨gb188, 1, none⟩ = some (.string (⟨#[]⟩ : ByteArray)) := (blk_cell BK188.out 1).trans rfl; have hcz11_2 : w9.cell? ⟨gb188, 2, none⟩ = some (.int .i64 0) := (blk_cell BK188.out 2).trans rfl; have hcz11_3 : w9.cell? ⟨gb188, 3, none⟩ = some (.string (⟨#[]⟩ : ByteArray)) := (blk_cell BK188.out 3).trans rfl; have hcz11_4 : w9.cell? ⟨gb188, 4, none⟩ = some (.int .i64 0) := (blk_cell BK188.out 4).trans rfl; have hcz11_5 : w9.cell? ⟨gb188, 5, none⟩ = some (.string (⟨#[]⟩ : ByteArray)) := (blk_cell BK188.out 5).trans rfl; have hcz11_6 : w9.cell? ⟨gb188, 6, none⟩ = some (.int .i64 0) := (blk_cell BK188.out 6).trans rfl; have hcz11_7 : w9.cell? ⟨gb188, 7, none⟩ = some (.string (⟨#[]⟩ : ByteArray)) := (blk_cell BK188.out 7).trans rfl; have hcz11_8 : w9.cell? ⟨gb188, 8, none⟩ = some (.int .i64 0) := (blk_cell BK188.out 8).trans rfl; have hcz11_9 : w9.cell? ⟨gb188, 9, none⟩ = some (.string (⟨#[]⟩ : ByteArray)) := (blk_cell BK188.out 9).trans rfl; have hcz11_10 : w9.cell? ⟨gb188, 10, none⟩ = some (.slice none 0 0) := (blk_cell BK188.out 10).trans rfl; have hfz11_0 := blk_frozen BK188.out 0; have hfz11_1 := blk_frozen BK188.out 1; have hfz11_2 := blk_frozen BK188.out 2; have hfz11_3 := blk_frozen BK188.out 3; have hfz11_4 := blk_frozen BK188.out 4; have hfz11_5 := blk_frozen BK188.out 5; have hfz11_6 := blk_frozen BK188.out 6; have hfz11_7 := blk_frozen BK188.out 7; have hfz11_8 := blk_frozen BK188.out 8; have hfz11_9 := blk_frozen BK188.out 9; have hfz11_10 := blk_frozen BK188.out 10) | ((with_reducible refine gate_callee (f := 86) rfl ?_); refine goesL_ (some 15) rfl rfl Tryd.func86 (by kernel_rfl) rfl #[.agg #[.int .i64 ((rd_T56 l0_10 x9_1).f0), .string ((rd_T56 l0_10 x9_1).f1.f0), .int .i64 ((rd_T56 l0_10 x9_1).f1.f1), .string ((rd_T56 l0_10 x9_1).f2.f0), .int .i64 ((rd_T56 l0_10 x9_1).f2.f1), .string ((rd_T56 l0_10 x9_1).f3.f0), .int .i64 ((rd_T56 l0_10 x9_1).f3.f1), .string ((rd_T56 l0_10 x9_1).f4.f0), .int .i64 ((rd_T56 l0_10 x9_1).f4.f1), .string ((rd_T56 l0_10 x9_1).f5), .slice A187_10 ((rd_T56 l0_10 x9_1).f6).length c187_10]] rfl (by (try simp only [List.map_toArray, List.map_cons, List.map_nil]); first | done | rfl | (simp only [List.length_drop, List.length_take]; rfl)) ?_; (with_reducible refine (ih k1 (by have := HK1.out; omega) ((rd_T56 l0_10 x9_1).f0) ((rd_T56 l0_10 x9_1).f1.f0) ((rd_T56 l0_10 x9_1).f1.f1) ((rd_T56 l0_10 x9_1).f2.f0) ((rd_T56 l0_10 x9_1).f2.f1) ((rd_T56 l0_10 x9_1).f3.f0) ((rd_T56 l0_10 x9_1).f3.f1) ((rd_T56 l0_10 x9_1).f4.f0) ((rd_T56 l0_10 x9_1).f4.f1) ((rd_T56 l0_10 x9_1).f5) _ _ ((rd_T56 l0_10 x9_1).f6) t189 _ ?side1 ?side2 A7.out).mono ?_); (case side1 => exact Kd.C_below HR187_10.out (by repeat (first | (with_reducible first | exact HB.out | apply below_alloc | apply pw_below_drewN | apply below_drew1 | refine below_set ?_ GE186.out | refine below_set ?_ GE188.out) | exact HB.out))); (case side2 => exact HC187_10.out); rintro e w12 ⟨rfl, hb⟩; refine ⟨_, rfl, ?_⟩; have n0_ := aS (blk_below (g := gb186) (o := .cells #[.int .i64 a0_0, .string a0_1, .int .i64 a0_2, .string a0_3, .int .i64 a0_4, .string a0_5, .int .i64 a0_6, .string a0_7, .int .i64 a0_8, .string a0_9, .slice (some ad187) l0_10.length c0_10] 56 (0, 0)) (by (with_reducible repeat (first | refine blk_drewN ?_ _ | refine blk_drew ?_ | refine blk_alloc ?_ _)); refine blk_far ?_ NB186_188.out _; (with_reducible repeat (first | refine blk_drewN ?_ _ | refine blk_drew ?_ | refine blk_alloc ?_ _)); refine blk_far ?_ NB186_188.out _; (with_reducible repeat (first | refine blk_drewN ?_ _ | refine blk_drew ?_ | refine blk_alloc ?_ _)); refine blk_far ?_ NB186_188.out _; (with_reducible repeat (first | refine blk_drewN ?_ _ | refine blk_drew ?_ | refine blk_alloc ?_ _)); refine blk_far ?_ NB186_188.out _; (with_reducible repeat (first | refine blk_drewN ?_ _ | refine blk_drew ?_ | refine blk_alloc ?_ _)); refine blk_far ?_ NB186_188.out _; (with_reducible repeat (first | refine blk_drewN ?_ _ | refine blk_drew ?_ | refine blk_alloc ?_ _)); refine blk_far ?_ NB186_188.out _; (with_reducible repeat (first | refine blk_drewN ?_ _ | refine blk_drew ?_ | refine blk_alloc ?_ _)); refine blk_far ?_ NB186_188.out _; (with_reducible repeat (first | refine blk_drewN ?_ _ | refine blk_drew ?_ | refine blk_alloc ?_ _)); refine blk_far ?_ NB186_188.out _; (with_reducible repeat (first | refine blk_drewN ?_ _ | refine blk_drew ?_ | refine blk_alloc ?_ _)); refine blk_far ?_ NB186_188.out _; (with_reducible repeat (first | refine blk_drewN ?_ _ | refine blk_drew ?_ | refine blk_alloc ?_ _)); refine blk_far ?_ NB186_188.out _; (with_reducible repeat (first | refine blk_drewN ?_ _ | refine blk_drew ?_ | refine blk_alloc ?_ _)); refine blk_far ?_ NB186_188.out _; (with_reducible repeat (first | refine blk_drewN ?_ _ | refine blk_drew ?_ | refine blk_alloc ?_ _)); exact BK186.out) hb); have n1_ := aS (blk_below (g := gb188) (o := .cells #[.int .i64 ((rd_T56 l0_10 x9_1).f0), .string ((rd_T56 l0_10 x9_1).f1.f0), .int .i64 ((rd_T56 l0_10 x9_1).f1.f1), .string ((rd_T56 l0_10 x9_1).f2.f0), .int .i64 ((rd_T56 l0_10 x9_1).f2.f1), .string ((rd_T56 l0_10 x9_1).f3.f0), .int .i64 ((rd_T56 l0_10 x9_1).f3.f1), .string ((rd_T56 l0_10 x9_1).f4.f0), .int .i64 ((rd_T56 l0_10 x9_1).f4.f1), .string ((rd_T56 l0_10 x9_1).f5), .slice A187_10 ((rd_T56 l0_10 x9_1).f6).length c187_10] 56 (0, 0)) (by (with_reducible repeat (first | refine blk_drewN ?_ _ | refine blk_drew ?_ | refine blk_alloc ?_ _)); refine blk_put (cs := #[.int .i64 ((rd_T56 l0_10 x9_1).f0), .string ((rd_T56 l0_10 x9_1).f1.f0), .int .i64 ((rd_T56 l0_10 x9_1).f1.f1), .string ((rd_T56 l0_10 x9_1).f2.f0), .int .i64 ((rd_T56 l0_10 x9_1).f2.f1), .string ((rd_T56 l0_10 x9_1).f3.f0), .int .i64 ((rd_T56 l0_10 x9_1).f3.f1), .string ((rd_T56 l0_10 x9_1).f4.f0), .int .i64 ((rd_T56 l0_10 x9_1).f4.f1), .string ((rd_T56 l0_10 x9_1).f5), .slice none 0 0]) ?_ 10 _ rfl; (with_reducible repeat (first | refine blk_drewN ?_ _ | refine blk_drew ?_ | refine blk_alloc ?_ _)); refine blk_put (cs := #[.int .i64 ((rd_T56 l0_10 x9_1).f0), .string ((rd_T56 l0_10 x9_1).f1.f0), .int .i64 ((rd_T56 l0_10 x9_1).f1.f1), .string ((rd_T56 l0_10 x9_1).f2.f0), .int .i64 ((rd_T56 l0_10 x9_1).f2.f1), .string ((rd_T56 l0_10 x9_1).f3.f0), .int .i64 ((rd_T56 l0_10 x9_1).f3.f1), .string ((rd_T56 l0_10 x9_1).f4.f0), .int .i64 ((rd_T56 l0_10 x9_1).f4.f1), .string (⟨#[]⟩ : ByteArray), .slice none 0 0]) ?_ 9 _ rfl; (with_reducible repeat (first | refine blk_drewN ?_ _ | refine blk_drew ?_ | refine blk_alloc ?_ _)); refine blk_put (cs := #[.int .i64 ((rd_T56 l0_10 x9_1).f0), .string ((rd_T56 l0_10 x9_1).f1.f0), .int .i64 ((rd_T56 l0_10 x9_1).f1.f1), .string ((rd_T56 l0_10 x9_1).f2.f0), .int .i64 ((rd_T56 l0_10 x9_1).f2.f1), .string ((rd_T56 l0_10 x9_1).f3.f0), .int .i64 ((rd_T56 l0_10 x9_1).f3.f1), .string ((rd_T56 l0_10 x9_1).f4.f0), .int .i64 0, .string (⟨#[]⟩ : ByteArray), .slice none 0 0]) ?_ 8 _ rfl; (with_reducible repeat (first | refine blk_drewN ?_ _ | refine blk_drew ?_ | refine blk_alloc ?_ _)); refine blk_put (cs := #[.int .i64 ((rd_T56 l0_10 x9_1).f0), .string ((rd_T56 l0_10 x9_1).f1.f0), .int .i64 ((rd_T56 l0_10 x9_1).f1.f1), .string ((rd_T56 l0_10 x9_1).f2.f0), .int .i64 ((rd_T56 l0_10 x9_1).f2.f1), .string ((rd_T56 l0_10 x9_1).f3.f0), .int .i64 ((rd_T56 l0_10 x9_1).f3.f1), .string (⟨#[]⟩ : ByteArray), .int .i64 0, .string (⟨#[]⟩ : ByteArray), .slice none 0 0]) ?_ 7 _ rfl; (with_reducible repeat (first | refine blk_drewN ?_ _ | refine blk_drew ?_ | refine blk_alloc ?_ _)); refine blk_put (cs := #[.int .i64 ((rd_T56 l0_10 x9_1).f0), .string ((rd_T56 l0_10 x9_1).f1.f0), .int .i64 ((rd_T56 l0_10 x9_1).f1.f1), .string ((rd_T56 l0_10 x9_1).f2.f0), .int .i64 ((rd_T56 l0_10 x9_1).f2.f1), .string ((rd_T56 l0_10 x9_1).f3.f0), .int .i64 0, .string (⟨#[]⟩ : ByteArray), .int .i64 0, .string (⟨#[]⟩ : ByteArray), .slice none 0 0]) ?_ 6 _ rfl; (with_reducible repeat (first | refine blk_drewN ?_ _ | refine blk_drew ?_ | refine blk_alloc ?_ _)); refine blk_put (cs := #[.int .i64 ((rd_T56 l0_10 x9_1).f0), .string ((rd_T56 l0_10 x9_1).f1.f0), .int .i64 ((rd_T56 l0_10 x9_1).f1.f1), .string ((rd_T56 l0_10 x9_1).f2.f0), .int .i64 ((rd_T56 l0_10 x9_1).f2.f1), .string (⟨#[]⟩ : ByteArray), .int .i64 0, .string (⟨#[]⟩ : ByteArray), .int .i64 0, .string (⟨#[]⟩ : ByteArray), .slice none 0 0]) ?_ 5 _ rfl; (with_reducible repeat (first | refine blk_drewN ?_ _ | refine blk_drew ?_ | refine blk_alloc ?_ _)); refine blk_put (cs := #[.int .i64 ((rd_T56 l0_10 x9_1).f0), .string ((rd_T56 l0_10 x9_1).f1.f0), .int .i64 ((rd_T56 l0_10 x9_1).f1.f1), .string ((rd_T56 l0_10 x9_1).f2.f0), .int .i64 0, .string (⟨#[]⟩ : ByteArray), .int .i64 0, .string (⟨#[]⟩ : ByteArray), .int .i64 0, .string (⟨#[]⟩ : ByteArray), .slice none 0 0]) ?_ 4 _ rfl; (with_reducible repeat (first | refine blk_drewN ?_ _ | refine blk_drew ?_ | refine blk_alloc ?_ _)); refine blk_put (cs := #[.int .i64 ((rd_T56 l0_10 x9_1).f0), .string ((rd_T56 l0_10 x9_1).f1.f0), .int .i64 ((rd_T56 l0_10 x9_1).f1.f1), .string (⟨#[]⟩ : ByteArray), .int .i64 0, .string (⟨#[]⟩ : ByteArray), .int .i64 0, .string (⟨#[]⟩ : ByteArray), .int .i64 0, .string (⟨#[]⟩ : ByteArray), .slice none 0 0]) ?_ 3 _ rfl; (with_reducible repeat (first | refine blk_drewN ?_ _ | refine blk_drew ?_ | refine blk_alloc ?_ _)); refine blk_put (cs := #[.int .i64 ((rd_T56 l0_10 x9_1).f0), .string ((rd_T56 l0_10 x9_1).f1.f0), .int .i64 0, .string (⟨#[]⟩ : ByteArray), .int .i64 0, .string (⟨#[]⟩ : ByteArray), .int .i64 0, .string (⟨#[]⟩ : ByteArray), .int .i64 0, .string (⟨#[]⟩ : ByteArray), .slice none 0 0]) ?_ 2 _ rfl; (with_reducible repeat (first | refine blk_drewN ?_ _ | refine blk_drew ?_ | refine blk_alloc ?_ _)); refine blk_put (cs := #[.int .i64 ((rd_T56 l0_10 x9_1).f0), .string (⟨#[]⟩ : ByteArray), .int .i64 0, .string (⟨#[]⟩ : ByteArray), .int .i64 0, .string (⟨#[]⟩ : ByteArray), .int .i64 0, .string (⟨#[]⟩ : ByteArray), .int .i64 0, .string (⟨#[]⟩ : ByteArray), .slice none 0 0]) ?_ 1 _ rfl; (with_reducible repeat (first | refine blk_drewN ?_ _ | refine blk_drew ?_ | refine blk_alloc ?_ _)); refine blk_put (cs := #[.int .i64 0, .string (⟨#[]⟩ : ByteArray), .int .i64 0, .string (⟨#[]⟩ : ByteArray), .int .i64 0, .string (⟨#[]⟩ : ByteArray), .int .i64 0, .string (⟨#[]⟩ : ByteArray), .int .i64 0, .string (⟨#[]⟩ : ByteArray), .slice none 0 0]) ?_ 0 _ rfl; (with_reducible repeat (first | refine blk_drewN ?_ _ | refine blk_drew ?_ | refine blk_alloc ?_ _)); exact BK188.out) hb); have n2_ := aS (below_step (by repeat (first | (with_reducible first | exact HB.out | apply below_alloc | apply pw_below_drewN | apply below_drew1 | refine below_set ?_ GE186.out | refine below_set ?_ GE188.out) | exact HB.out)) hb); clear BK186; clear BK188; clear HB; have BK186 := n0_; have BK188 := n1_; have HB := n2_; clear n0_ n1_ n2_; (try clear hb); (try clear hb2); (try clear hk); (try clear hi)))
      go_roundg k1
      case measure => have := HK1.out; omega
      case rel => exact ⟨(ji8), (wrap64 (x9_1 + 1)), (by first | rfl | (simp; done) | (simp only [← hji8] <;> (first | rfl | simp)) | (simp [*]; done)), (by first | rfl | (simp; done) | (simp [*]; done)), H', ⟨by have := HK1.out; omega⟩, ⟨by (with_reducible repeat (first | refine blk_drewN ?_ _ | refine blk_drew ?_ | refine blk_alloc ?_ _)); exact BK186.out⟩, ⟨by repeat (first | (with_reducible first | exact HB.out | apply below_alloc | apply pw_below_drewN | apply below_drew1 | refine below_set ?_ GE186.out | refine below_set ?_ GE188.out) | exact HB.out)⟩⟩
     ·rw [if_neg c6] at H
      exact absurd H (by simp)
    ·rw [if_neg c5] at H
     exact absurd H (by simp)
   ·rw [if_neg c4] at H
    have c4b0 : decide (x9_1 < (l0_10.length : Int)) = false := decide_eq_false c4
    clear c4
    obtain rfl := Option.some.inj H
    go_wp2
    go_ret
    exact ⟨by first | rfl | (simp [errW_none, errW_some] <;> rfl) | (simp [*, errW_none, errW_some] <;> rfl), by repeat (first | (with_reducible first | exact HB.out | apply below_alloc | apply pw_below_drewN | apply below_drew1 | refine below_set ?_ GE186.out) | exact HB.out)⟩
def deepF (k : Nat) (x : Ex) : Option Int := syn_deep.f k x.f0 x.f1.f0 x.f1.f1 x.f2.f0 x.f2.f1 x.f3.f0 x.f3.f1 x.f4.f0 x.f4.f1 x.f5 x.f6
theorem mx_natN (a b : Nat) : mx (a : Int) (b : Int) = ((max a b : Nat) : Int) := by unfold mx; split <;> omega
theorem wrap_1N (a : Nat) (h : a ≤ 1000000) : wrap64 (1 + (a : Int)) = ((1 + a : Nat) : Int) := by unfold wrap64; omega
theorem wrap_N1 (a : Nat) (h : a ≤ 1000000) : wrap64 ((a : Int) + 1) = ((a + 1 : Nat) : Int) := by unfold wrap64; omega
theorem deep_l0 (ks : List Ex) (hl : ks.length ≤ 1000000) (hd : deepL ks ≤ 1000000) (K : Nat) (hK : ∀ k, K ≤ k → ∀ x ∈ ks, deepF k x = some (deepE x : Int)) (d : Nat) : ∀ (k i m : Nat), ks.length - i = d → i ≤ ks.length → d + K < k → m ≤ 1000000 →
  syn_deep.l0 k (m : Int) ks (ks.length : Int) (i : Int) = some ((max m (deepL (ks.drop i)) : Nat) : Int) := by
 induction d with
 | zero =>
  intro k i m h1 h2 h3 h4
  obtain ⟨k, rfl⟩ : ∃ q, k = q + 1 := ⟨k - 1, by omega⟩
  simp only [syn_deep.l0]
  rw [if_neg (by omega), List.drop_eq_nil_of_le (by omega)]
  unfold deepL
  rw [Nat.max_zero]
 | succ d ih =>
  intro k i m h1 h2 h3 h4
  obtain ⟨k, rfl⟩ : ∃ q, k = q + 1 := ⟨k - 1, by omega⟩
  have hi : i < ks.length := by omega
  have hr : rd_T56 ks (i : Int) = ks[i] := by simp [rd_T56, hi]
  have hk := hK k (by omega) ks[i] (List.getElem_mem hi)
  have hle : 1 + deepE ks[i] ≤ deepL ks := by
   have go : ∀ (l : List Ex) (j : Nat) (hj : j < l.length), 1 + deepE l[j] ≤ deepL l := by
    intro l
    induction l with
    | nil => intro j hj; simp at hj
    | cons y ys ih2 =>
     intro j hj
     unfold deepL
     cases j with
     | zero => exact Nat.le_max_left _ _
     | succ j => exact Nat.le_trans (ih2 j (by simpa using hj)) (Nat.le_max_right _ _)
   exact go ks i hi
  have hdr : deepL (ks.drop i) = max (1 + deepE ks[i]) (deepL (ks.drop (i + 1))) := by
   rw [List.drop_eq_getElem_cons hi]
   conv => lhs; unfold deepL
  unfold deepF at hk
  simp only [syn_deep.l0]
  rw [if_pos (by omega), if_pos (by omega), if_pos (by omega), hr, hk, Option.bind_some]
  have b1 : deepE ks[i] ≤ 1000000 := by omega
  have b2 : i ≤ 1000000 := by omega
  have b3 : max m (1 + deepE ks[i]) ≤ 1000000 := Nat.max_le.2 ⟨h4, by omega⟩
  have b4 : ks.length - (i + 1) = d := by omega
  have b5 : d + K < k := by omega
  rw [wrap_1N _ b1, wrap_N1 _ b2, mx_natN, ih k (i + 1) (max m (1 + deepE ks[i])) b4 hi b5 b3, hdr, Nat.max_assoc]
mutual
def okTr : Ex → Prop
 | ⟨_, _, _, _, _, _, ks⟩ => ks.length ≤ 1000000 ∧ okTs ks
def okTs : List Ex → Prop
 | [] => True
 | k :: ks => okTr k ∧ okTs ks
end
mutual
theorem deepE_f : ∀ x : Ex, okTr x → deepE x ≤ 1000000 → ∃ K, ∀ k, K ≤ k → deepF k x = some (deepE x : Int)
 | ⟨f0, f1, f2, f3, f4, f5, ks⟩, h, hd => by
  unfold okTr at h
  unfold deepE at hd
  obtain ⟨K, hK⟩ := deepL_f ks h.2 hd
  refine ⟨K + ks.length + 2, fun k hk => ?_⟩
  obtain ⟨k, rfl⟩ : ∃ q, k = q + 1 := ⟨k - 1, by omega⟩
  have hl := deep_l0 ks h.1 hd K hK ks.length k 0 0 (by omega) (by omega) (by omega) (by omega)
  rw [List.drop_zero, Nat.zero_max] at hl
  unfold deepF deepE
  simp only [syn_deep.f]
  exact hl
theorem deepL_f : ∀ ks : List Ex, okTs ks → deepL ks ≤ 1000000 → ∃ K, ∀ k, K ≤ k → ∀ x ∈ ks, deepF k x = some (deepE x : Int)
 | [], _, _ => ⟨0, fun _ _ x hx => by cases hx⟩
 | y :: ys, h, hd => by
  unfold okTs at h
  unfold deepL at hd
  have q1 := Nat.le_max_left (1 + deepE y) (deepL ys)
  have q2 := Nat.le_max_right (1 + deepE y) (deepL ys)
  obtain ⟨K1, h1⟩ := deepE_f y h.1 (by omega)
  obtain ⟨K2, h2⟩ := deepL_f ys h.2 (by omega)
  refine ⟨max K1 K2, fun k hk x hx => ?_⟩
  have p1 := Nat.le_max_left K1 K2
  have p2 := Nat.le_max_right K1 K2
  rcases List.mem_cons.1 hx with rfl | hx
  ·exact h1 k (by omega)
  ·exact h2 k (by omega) x hx
end
theorem deep_calls (x : Ex) (A : Option Addr) (c : Nat) (w : World) (hr : Kd.C k56 w A x.f6.length x.f6) (hc : x.f6.length ≤ c) (ho : okTr x) (hd : deepE x ≤ 1000000) :
  Calls Tryd.prog 86 #[.agg #[.int .i64 x.f0, .string x.f1.f0, .int .i64 x.f1.f1, .string x.f2.f0, .int .i64 x.f2.f1, .string x.f3.f0, .int .i64 x.f3.f1, .string x.f4.f0, .int .i64 x.f4.f1, .string x.f5, .slice A x.f6.length c]] w fun e w' => e = .returned (.int .i64 (deepE x : Int)) ∧ Below w.heap.size w w' := by
 obtain ⟨K, hK⟩ := deepE_f x ho hd
 exact syn_deep.calls K _ _ _ _ _ _ _ _ _ _ A c x.f6 _ w hr hc (hK K (Nat.le_refl _))
end Go.Proofs.YtenogedclignmaaDoor.Q
