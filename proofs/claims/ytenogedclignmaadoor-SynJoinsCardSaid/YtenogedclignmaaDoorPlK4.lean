/-
  HELPER.
-/
import Derived.Test.YtenogedclignmaaDoorPlKA
import Derived.Test.YtenogedclignmaaDoorPlK3
set_option linter.unusedVariables false
set_option linter.unusedSimpArgs false
namespace Go.Proofs.YtenogedclignmaaDoor.Q
open Go.RowKit Go.Proofs.YtenogedclignmaaDoorW.PrintWords Go.Proofs.YtenogedclignmaaDoorW.PrintLast Go.Proofs.YtenogedclignmaaDoorW.PrintMore
set_option maxHeartbeats 4000000 in
set_option maxRecDepth 100000 in
theorem dim_plain (bp : Nat) (s : ByteArray) (A : Option Addr) (c : Nat) (l : List Tok) (begun : Int) (fv : Value) (a : Nat) (w : World) (hP : PS bp s A c l begun fv a w) (hK : KTab w) (hl : shortL l) (d : Dm) (r : List Tok) (h : singleP (l.drop a) = .ok d r) (hd : d.f0.data.toList = []) :
  Calls Tryd.prog 41 #[.pointer (some ⟨bp, 0, none⟩)] w fun en w' => en = .returned (.agg #[.string d.f0, .int .i64 d.f1]) ∧ Below w.heap.size (w.setCell ⟨bp, 2, none⟩ (.int .i64 ((a : Int) + 1))) w' := by
 have hbp : bp < w.heap.size := (Array.getElem?_eq_some_iff.1 hP.blk).1
 have hb1 := below_alloc (bR w.heap.size w) (.cells #[.string ⟨#[]⟩, .int .i64 0] 51)
 have ho := (MapKept.heap_alloc w (.cells #[.string ⟨#[]⟩, .int .i64 0] 51)).1
 have HS := aS (hP.below hb1)
 have HSI := aS (single_ok bp s A c l begun fv a _ (hP.below hb1) (hK.below hb1) hl d r h)
 have hd0 : d.f0.toList = [] := by rw [ByteArray.toList_eq]; exact hd
 have e1 : (d.f0.toList == ([] : List UInt8)) = true := by rw [hd0]; rfl
 have e2 : (d.f0.toList != ([] : List UInt8)) = false := by rw [hd0]; rfl
 have e3 : d.f0.toList.isEmpty = true := by rw [hd0]; rfl
 have HB := aS hb1
 have HO := aS ho
 clear hP hK hl h hd hb1 ho hd0
 go_enter Tryd.func41, Tryd.ntmps41
 go_upto_region 1 with (fail)
 generalize w.alloc (.cells #[.string ⟨#[]⟩, .int .i64 0] 51) = w1 at *
 go_upto_region 2 with (go_at_call 52; refine HSI.out.2.2.mono ?_; rintro e w2 ⟨rfl, hb⟩; have HB2 := aS hb; clear hb)
 have hg2 := step_block HB2.out HO.out (by omega)
 have hb3 := below_alloc (bR w2.heap.size w2) (.cells #[.string d.f0, .int .i64 d.f1] 51)
 have ho3 := (MapKept.heap_alloc w2 (.cells #[.string d.f0, .int .i64 d.f1] 51)).1
 have hg3 := fbelow hg2 hb3
 have m0 := cH hg3 0
 have m1 := cH hg3 1
 have f0 := blk_frozen hg3 0
 have f1 := blk_frozen hg3 1
 have n0 := cH ho3 0
 have n1 := cH ho3 1
 have HG3 := aS hg3
 have HB3 := aS ((step_after HB.out (HB2.out)).trans (hb3.mono (by have := HB2.out.size; rw [size_set] at this; have := HB.out.size; omega)))
 clear hg2 hb3 ho3 hg3
 generalize w2.alloc (.cells #[.string d.f0, .int .i64 d.f1] 51) = w3 at *
 go_wp2_with (fail)
 have hbel := below_fill2 (b0 := .string d.f0) (b1 := .int .i64 d.f1) HB3.out (Nat.le_refl _)
 refine bodyPost_ret (v := .agg #[.string d.f0, .int .i64 d.f1]) ?_ rfl ⟨rfl, hbel⟩
 have hq := fill2 (b0 := .string d.f0) (b1 := .int .i64 d.f1) HG3.out
 have g0 := cH hq 0
 have g1 := cH hq 1
 clear hq hbel m0 m1 f0 f1
 generalize (w3.setCell _ _).setCell _ _ = wf at *
 simp [results, Tryd.results41, go_sem, g0, g1]
set_option maxHeartbeats 4000000 in
set_option maxRecDepth 100000 in
theorem dim_noplus (bp : Nat) (s : ByteArray) (A : Option Addr) (c : Nat) (l : List Tok) (begun : Int) (fv : Value) (a : Nat) (w : World) (hP : PS bp s A c l begun fv a w) (hK : KTab w) (hl : shortL l) (d : Dm) (r : List Tok) (h : singleP (l.drop a) = .ok d r) (hd : d.f0.data.toList ≠ []) (hx : a + 1 < l.length → txt (looks (l.drop (a + 1))) ≠ [43]) :
  Calls Tryd.prog 41 #[.pointer (some ⟨bp, 0, none⟩)] w fun en w' => en = .returned (.agg #[.string d.f0, .int .i64 d.f1]) ∧ Below w.heap.size (w.setCell ⟨bp, 2, none⟩ (.int .i64 ((a : Int) + 1))) w' := by
 have hbp : bp < w.heap.size := (Array.getElem?_eq_some_iff.1 hP.blk).1
 have hb1 := below_alloc (bR w.heap.size w) (.cells #[.string ⟨#[]⟩, .int .i64 0] 51)
 have ho := (MapKept.heap_alloc w (.cells #[.string ⟨#[]⟩, .int .i64 0] 51)).1
 have HS := aS (hP.below hb1)
 have HSI := aS (single_ok bp s A c l begun fv a _ (hP.below hb1) (hK.below hb1) hl d r h)
 have hd0 : d.f0.toList ≠ [] := by rw [ByteArray.toList_eq]; exact hd
 have e1 : (d.f0.toList == ([] : List UInt8)) = false := beq_eq_false_iff_ne.2 hd0
 have e2 : (d.f0.toList != ([] : List UInt8)) = true := bne_iff_ne.2 hd0
 have e3 : d.f0.toList.isEmpty = false := by cases hq : d.f0.toList with | nil => exact absurd hq hd0 | cons _ _ => rfl
 have HB := aS hb1
 have HO := aS ho
 have HX := aS hx
 clear hP hK hl h hd hb1 ho hd0 hx
 go_enter Tryd.func41, Tryd.ntmps41
 go_upto_region 1 with (fail)
 generalize w.alloc (.cells #[.string ⟨#[]⟩, .int .i64 0] 51) = w1 at *
 go_upto_region 2 with (go_at_call 52; refine HSI.out.2.2.mono ?_; rintro e w2 ⟨rfl, hb⟩; have HB2 := aS hb; clear hb)
 have hg2 := step_block HB2.out HO.out (by omega)
 have hb3 := below_alloc (bR w2.heap.size w2) (.cells #[.string d.f0, .int .i64 d.f1] 51)
 have ho3 := (MapKept.heap_alloc w2 (.cells #[.string d.f0, .int .i64 d.f1] 51)).1
 have hg3 := fbelow hg2 hb3
 have k0 := cH ho3 0
 have k1 := cH ho3 1
 have HT3 := aS ho3
 have HP2 := aS ((HS.out.set (a + 1) HSI.out.2.1).below (by rw [size_set]; exact HB2.out))
 have HP3 := aS (HP2.out.below hb3)
 have HG3 := aS hg3
 have HB3 := aS ((step_after HB.out (HB2.out)).trans (hb3.mono (by have := HB2.out.size; rw [size_set] at this; have := HB.out.size; omega)))
 clear hg2 hb3 ho3 hg3
 generalize w2.alloc (.cells #[.string d.f0, .int .i64 d.f1] 51) = w3 at *
 go_wp2_with (go_at_call 36; refine (take_not ⟨#[43]⟩ bp s A c l begun fv (a + 1) _ HP3.out HX.out).mono ?_; rintro e w4 ⟨rfl, hb⟩; have hg4 := fbelow HG3.out hb; have ht4 := fbelow HT3.out hb; have m0 := cH hg4 0; have m1 := cH hg4 1; have f0 := blk_frozen hg4 0; have f1 := blk_frozen hg4 1; have n0 := cH ht4 0; have n1 := cH ht4 1; have HG4 := aS hg4; have HB4 := aS (HB3.out.trans (hb.mono (by have := HB3.out.size; rw [size_set] at this; exact this))); clear hb hg4 ht4)
 have hbel := below_fill2 (b0 := .string d.f0) (b1 := .int .i64 d.f1) HB4.out (Nat.le_refl _)
 refine bodyPost_ret (v := .agg #[.string d.f0, .int .i64 d.f1]) ?_ rfl ⟨rfl, hbel⟩
 have hq := fill2 (b0 := .string d.f0) (b1 := .int .i64 d.f1) HG4.out
 have g0 := cH hq 0
 have g1 := cH hq 1
 clear hq hbel m0 m1 f0 f1
 generalize (w4.setCell _ _).setCell _ _ = wf at *
 simp [results, Tryd.results41, go_sem, g0, g1]
set_option maxHeartbeats 4000000 in
set_option maxRecDepth 100000 in
theorem dim_plus (bp : Nat) (s : ByteArray) (A : Option Addr) (c : Nat) (l : List Tok) (begun : Int) (fv : Value) (a : Nat) (w : World) (hP : PS bp s A c l begun fv a w) (hK : KTab w) (hl : shortL l) (d : Dm) (r : List Tok) (h : singleP (l.drop a) = .ok d r) (hd : d.f0.data.toList ≠ []) (hlt : a + 1 < l.length) (hx : txt (looks (l.drop (a + 1))) = [43]) (tk : Tok) (htk : looks (l.drop (a + 2)) = tk) (h2 : tk.f0 = 2) :
  Calls Tryd.prog 41 #[.pointer (some ⟨bp, 0, none⟩)] w fun en w' => en = .returned (.agg #[.string d.f0, .int .i64 tk.f2]) ∧ Below w.heap.size (w.setCell ⟨bp, 2, none⟩ (.int .i64 (((a + 2 : Nat) : Int) + 1))) w' := by
 have hbp : bp < w.heap.size := (Array.getElem?_eq_some_iff.1 hP.blk).1
 have hb1 := below_alloc (bR w.heap.size w) (.cells #[.string ⟨#[]⟩, .int .i64 0] 51)
 have ho := (MapKept.heap_alloc w (.cells #[.string ⟨#[]⟩, .int .i64 0] 51)).1
 have HS := aS (hP.below hb1)
 have HSI := aS (single_ok bp s A c l begun fv a _ (hP.below hb1) (hK.below hb1) hl d r h)
 have hd0 : d.f0.toList ≠ [] := by rw [ByteArray.toList_eq]; exact hd
 have e1 : (d.f0.toList == ([] : List UInt8)) = false := beq_eq_false_iff_ne.2 hd0
 have e2 : (d.f0.toList != ([] : List UInt8)) = true := bne_iff_ne.2 hd0
 have e3 : d.f0.toList.isEmpty = false := by cases hq : d.f0.toList with | nil => exact absurd hq hd0 | cons _ _ => rfl
 have HB := aS hb1
 have HO := aS ho
 have HX := aS hx
 have HTK := aS htk
 have H2 := aS h2
 have HLT := aS hlt
 have HW := aS hP.blk
 clear hP hK hl h hd hb1 ho hd0 hx htk h2 hlt
 go_enter Tryd.func41, Tryd.ntmps41
 go_upto_region 1 with (fail)
 generalize w.alloc (.cells #[.string ⟨#[]⟩, .int .i64 0] 51) = w1 at *
 go_upto_region 2 with (go_at_call 52; refine HSI.out.2.2.mono ?_; rintro e w2 ⟨rfl, hb⟩; have HB2 := aS hb; clear hb)
 have hg2 := step_block HB2.out HO.out (by omega)
 have hb3 := below_alloc (bR w2.heap.size w2) (.cells #[.string d.f0, .int .i64 d.f1] 51)
 have ho3 := (MapKept.heap_alloc w2 (.cells #[.string d.f0, .int .i64 d.f1] 51)).1
 have hg3 := fbelow hg2 hb3
 have k0 := cH ho3 0
 have k1 := cH ho3 1
 have HN1 := aS (show w.heap.size ≠ bp from by omega)
 have HN2 := aS (show w2.heap.size ≠ bp from by have q1 := HB2.out.size; rw [size_set] at q1; have q2 := HB.out.size; omega)
 have hnn : w.heap.size ≠ w2.heap.size := by have q1 := HB2.out.size; rw [size_set] at q1; have q2 := (Array.getElem?_eq_some_iff.1 HO.out).1; omega
 have hnm : w2.heap.size ≠ w.heap.size := fun e => hnn e.symm
 have HT3 := aS ho3
 have HP2 := aS ((HS.out.set (a + 1) HSI.out.2.1).below (by rw [size_set]; exact HB2.out))
 have HP3 := aS (HP2.out.below hb3)
 have HG3 := aS hg3
 have HB3 := aS ((step_after HB.out (HB2.out)).trans (hb3.mono (by have := HB2.out.size; rw [size_set] at this; have := HB.out.size; omega)))
 clear hg2 hb3 ho3 hg3
 generalize w2.alloc (.cells #[.string d.f0, .int .i64 d.f1] 51) = w3 at *
 go_wp2_with (first
  | (go_at_call 36; refine (take_calls ⟨#[43]⟩ bp s A c l begun fv (a + 1) _ HP3.out HLT.out HX.out).mono ?_; rintro e w4 ⟨rfl, hb⟩; have hg4 := step_block hb HG3.out HN1.out; have ht4 := step_block hb HT3.out HN2.out; have k2 := cH ht4 0; have k3 := cH ht4 1; have HG4 := aS hg4; have HT4 := aS ht4; have HP4 := aS ((HP3.out.set (a + 2) HLT.out).below (by rw [size_set]; exact hb)); have HB4 := aS (step_trans HW.out HB3.out hb); clear hb hg4 ht4)
  | (go_at_call 53; refine (number_calls bp s A c l begun fv (a + 2) _ HP4.out tk HTK.out H2.out).mono ?_; rintro e w5 ⟨rfl, hb⟩; have hg5 := step_block hb HG4.out HN1.out; have ht5 := step_block hb HT4.out HN2.out; have m0 := cH hg5 0; have m1 := cH hg5 1; have f0 := blk_frozen hg5 0; have f1 := blk_frozen hg5 1; have n0 := cH ht5 0; have n1 := cH ht5 1; have j0 := blk_frozen ht5 0; have j1 := blk_frozen ht5 1; have HG5 := aS hg5; have HB5 := aS (step_trans HW.out HB4.out hb); clear hb hg5 ht5))
 have hg6 : (w5.setCell ⟨w2.heap.size, 1, none⟩ (.int .i64 tk.f2)).heap[w.heap.size]? = some (.cells #[.string ⟨#[]⟩, .int .i64 0] 51) := (Below.heap_setCell _ _ _ _ hnn).trans HG5.out
 have hb6 := Below.setCell HB5.out (p := ⟨w2.heap.size, 1, none⟩) (show w.heap.size ≤ w2.heap.size from by have q1 := HB2.out.size; rw [size_set] at q1; have q2 := HB.out.size; omega) (.int .i64 tk.f2)
 have hbel := below_fill2 (b0 := .string d.f0) (b1 := .int .i64 tk.f2) hb6 (Nat.le_refl _)
 refine bodyPost_ret (v := .agg #[.string d.f0, .int .i64 tk.f2]) ?_ rfl ⟨rfl, hbel⟩
 have hq := fill2 (b0 := .string d.f0) (b1 := .int .i64 tk.f2) hg6
 have g0 := cH hq 0
 have g1 := cH hq 1
 clear hq hbel hb6 hg6 m0 m1 f0 f1
 generalize ((w5.setCell _ _).setCell _ _).setCell _ _ = wf at *
 simp [results, Tryd.results41, go_sem, g0, g1]
set_option maxHeartbeats 4000000 in
set_option maxRecDepth 100000 in
theorem dim_plus_not (bp : Nat) (s : ByteArray) (A : Option Addr) (c : Nat) (l : List Tok) (begun : Int) (fv : Value) (a : Nat) (w : World) (hP : PS bp s A c l begun fv a w) (hK : KTab w) (hl : shortL l) (d : Dm) (r : List Tok) (h : singleP (l.drop a) = .ok d r) (hd : d.f0.data.toList ≠ []) (hlt : a + 1 < l.length) (hx : txt (looks (l.drop (a + 1))) = [43]) (tk : Tok) (htk : looks (l.drop (a + 2)) = tk) (h2 : tk.f0 ≠ 2) :
  Calls Tryd.prog 41 #[.pointer (some ⟨bp, 0, none⟩)] w fun en w' => en = gaveUp (failE l 20 (a + 2)) (a + 2) ∧ Below w.heap.size (w.setCell ⟨bp, 2, none⟩ (.int .i64 (((a + 1 : Nat) : Int) + 1))) w' := by
 have hbp : bp < w.heap.size := (Array.getElem?_eq_some_iff.1 hP.blk).1
 have hb1 := below_alloc (bR w.heap.size w) (.cells #[.string ⟨#[]⟩, .int .i64 0] 51)
 have ho := (MapKept.heap_alloc w (.cells #[.string ⟨#[]⟩, .int .i64 0] 51)).1
 have HS := aS (hP.below hb1)
 have HSI := aS (single_ok bp s A c l begun fv a _ (hP.below hb1) (hK.below hb1) hl d r h)
 have hd0 : d.f0.toList ≠ [] := by rw [ByteArray.toList_eq]; exact hd
 have e1 : (d.f0.toList == ([] : List UInt8)) = false := beq_eq_false_iff_ne.2 hd0
 have e2 : (d.f0.toList != ([] : List UInt8)) = true := bne_iff_ne.2 hd0
 have e3 : d.f0.toList.isEmpty = false := by cases hq : d.f0.toList with | nil => exact absurd hq hd0 | cons _ _ => rfl
 have HB := aS hb1
 have HO := aS ho
 have HX := aS hx
 have HTK := aS htk
 have H2 := aS h2
 have HLT := aS hlt
 have HW := aS hP.blk
 clear hP hK hl h hd hb1 ho hd0 hx htk h2 hlt
 go_enter Tryd.func41, Tryd.ntmps41
 go_upto_region 1 with (fail)
 generalize w.alloc (.cells #[.string ⟨#[]⟩, .int .i64 0] 51) = w1 at *
 go_upto_region 2 with (go_at_call 52; refine HSI.out.2.2.mono ?_; rintro e w2 ⟨rfl, hb⟩; have HB2 := aS hb; clear hb)
 have hg2 := step_block HB2.out HO.out (by omega)
 have hb3 := below_alloc (bR w2.heap.size w2) (.cells #[.string d.f0, .int .i64 d.f1] 51)
 have ho3 := (MapKept.heap_alloc w2 (.cells #[.string d.f0, .int .i64 d.f1] 51)).1
 have hg3 := fbelow hg2 hb3
 have k0 := cH ho3 0
 have k1 := cH ho3 1
 have HN1 := aS (show w.heap.size ≠ bp from by omega)
 have HN2 := aS (show w2.heap.size ≠ bp from by have q1 := HB2.out.size; rw [size_set] at q1; have q2 := HB.out.size; omega)
 have hnn : w.heap.size ≠ w2.heap.size := by have q1 := HB2.out.size; rw [size_set] at q1; have q2 := (Array.getElem?_eq_some_iff.1 HO.out).1; omega
 have hnm : w2.heap.size ≠ w.heap.size := fun e => hnn e.symm
 have HT3 := aS ho3
 have HP2 := aS ((HS.out.set (a + 1) HSI.out.2.1).below (by rw [size_set]; exact HB2.out))
 have HP3 := aS (HP2.out.below hb3)
 have HG3 := aS hg3
 have HB3 := aS ((step_after HB.out (HB2.out)).trans (hb3.mono (by have := HB2.out.size; rw [size_set] at this; have := HB.out.size; omega)))
 clear hg2 hb3 ho3 hg3
 generalize w2.alloc (.cells #[.string d.f0, .int .i64 d.f1] 51) = w3 at *
 go_wp2_with (first
  | (go_at_call 36; refine (take_calls ⟨#[43]⟩ bp s A c l begun fv (a + 1) _ HP3.out HLT.out HX.out).mono ?_; rintro e w4 ⟨rfl, hb⟩; have hg4 := step_block hb HG3.out HN1.out; have ht4 := step_block hb HT3.out HN2.out; have k2 := cH ht4 0; have k3 := cH ht4 1; have HG4 := aS hg4; have HT4 := aS ht4; have HP4 := aS ((HP3.out.set (a + 2) HLT.out).below (by rw [size_set]; exact hb)); have HB4 := aS (step_trans HW.out HB3.out hb); clear hb hg4 ht4)
  | (go_at_call 53; refine (number_not bp s A c l begun fv (a + 2) _ HP4.out tk HTK.out H2.out).mono ?_; rintro e w5 ⟨rfl, hb⟩; have HB5 := aS (HB4.out.trans (hb.mono (by have := HB4.out.size; rw [size_set] at this; exact this))); clear hb))
 first | exact ⟨rfl, rfl, HB5.out⟩ | exact ⟨rfl, HB5.out⟩ | (trace_state; fail)
set_option maxHeartbeats 4000000 in
set_option maxRecDepth 100000 in
theorem dim_not (bp : Nat) (s : ByteArray) (A : Option Addr) (c : Nat) (l : List Tok) (begun : Int) (fv : Value) (a : Nat) (w : World) (hP : PS bp s A c l begun fv a w) (hK : KTab w) (hl : shortL l) (er : Int) (t : List Tok) (h : singleP (l.drop a) = .bad er t) :
  Calls Tryd.prog 41 #[.pointer (some ⟨bp, 0, none⟩)] w fun en w' => en = gaveUp (failE l 20 a) a ∧ Below w.heap.size w w' := by
 have hb1 := below_alloc (bR w.heap.size w) (.cells #[.string ⟨#[]⟩, .int .i64 0] 51)
 have HSI := aS (single_bad bp s A c l begun fv a _ (hP.below hb1) (hK.below hb1) hl er t h)
 have HB := aS hb1
 have hsz : (w.alloc (.cells #[.string ⟨#[]⟩, .int .i64 0] 51)).heap.size = w.heap.size + 1 := by show (w.heap.push _).size = _; simp
 have HSZ := aS hsz
 clear hP hK hl h hb1 hsz
 go_enter Tryd.func41, Tryd.ntmps41
 go_upto_region 1 with (fail)
 generalize w.alloc (.cells #[.string ⟨#[]⟩, .int .i64 0] 51) = w1 at *
 go_wp2_with (go_at_call 52; refine HSI.out.2.2.mono ?_; rintro e w2 ⟨rfl, hb⟩; have HB2 := aS (HB.out.trans (hb.mono (by rw [HSZ.out]; omega))); clear hb)
 first | exact ⟨rfl, rfl, HB2.out⟩ | exact ⟨rfl, HB2.out⟩ | (trace_state; fail)
theorem take_is (x : List UInt8) (l : List Tok) (a : Nat) : takeP x (l.drop a) = if a < l.length ∧ txt (looks (l.drop a)) = x then some (l.drop (a + 1)) else none := by
 by_cases h : a < l.length
 ·rw [List.drop_eq_getElem_cons h]
  show (if txt l[a] = x then some (l.drop (a + 1)) else none) = if a < l.length ∧ txt l[a] = x then some (l.drop (a + 1)) else none
  by_cases h2 : txt l[a] = x
  ·rw [if_pos h2, if_pos ⟨h, h2⟩]
  ·rw [if_neg h2, if_neg (fun q => h2 q.2)]
 ·rw [List.drop_eq_nil_of_le (by omega), if_neg (fun q => h q.1)]; rfl
theorem dim_ok (bp : Nat) (s : ByteArray) (A : Option Addr) (c : Nat) (l : List Tok) (begun : Int) (fv : Value) (a : Nat) (w : World) (hP : PS bp s A c l begun fv a w) (hK : KTab w) (hl : shortL l) (d : Dm) (r : List Tok) (h : dimP (l.drop a) = .ok d r) :
  ∃ b : Nat, r = l.drop b ∧ b ≤ l.length ∧ a < b ∧ Calls Tryd.prog 41 #[.pointer (some ⟨bp, 0, none⟩)] w fun en w' => en = .returned (.agg #[.string d.f0, .int .i64 d.f1]) ∧ Below w.heap.size (w.setCell ⟨bp, 2, none⟩ (.int .i64 (b : Int))) w' := by
 unfold dimP at h
 cases hs : singleP (l.drop a) with
 | bad e t => rw [hs] at h; cases h
 | ok d0 r0 =>
  rw [hs] at h
  obtain ⟨e0, hlt, _⟩ := single_ok bp s A c l begun fv a w hP hK hl d0 r0 hs
  subst e0
  simp only at h
  by_cases hd : d0.f0.data.toList = []
  ·rw [if_pos hd] at h
   cases h
   exact ⟨a + 1, rfl, hlt, by omega, dim_plain bp s A c l begun fv a w hP hK hl d _ hs hd⟩
  ·rw [if_neg hd, take_is] at h
   by_cases ht : a + 1 < l.length ∧ txt (looks (l.drop (a + 1))) = [43]
   ·rw [if_pos ht] at h
    simp only at h
    unfold numberP at h
    by_cases h2 : (looks (l.drop (a + 1 + 1))).f0 = 2
    ·rw [if_pos h2] at h
     cases h
     exact ⟨a + 3, tail_drop l (a + 2), looks_lt (by rw [h2]; decide), by omega, dim_plus bp s A c l begun fv a w hP hK hl d0 _ hs hd ht.1 ht.2 _ rfl h2⟩
    ·rw [if_neg h2, fail_at] at h; cases h
   ·rw [if_neg ht] at h
    cases h
    exact ⟨a + 1, rfl, hlt, by omega, dim_noplus bp s A c l begun fv a w hP hK hl d _ hs hd (fun q q2 => ht ⟨q, q2⟩)⟩
end Go.Proofs.YtenogedclignmaaDoor.Q
