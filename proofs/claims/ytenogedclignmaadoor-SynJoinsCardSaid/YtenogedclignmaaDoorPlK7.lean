/-
  HELPER.
-/
import Derived.Test.YtenogedclignmaaDoorPlKA
import Derived.Test.YtenogedclignmaaDoorPlK6
set_option linter.unusedVariables false
set_option linter.unusedSimpArgs false
namespace Go.Proofs.YtenogedclignmaaDoor.Q
open Go.RowKit Go.Maps Go.WideMaps Go.Proofs.YtenogedclignmaaDoorW.PrintWords Go.Proofs.YtenogedclignmaaDoorW.PrintLast Go.Proofs.YtenogedclignmaaDoorW.PrintMore
theorem nil_ok (op : Int) (d1 d2 d3 d4 : Dm) (s : ByteArray) : okE 8 ⟨op, d1, d2, d3, d4, s, []⟩ := by
 refine ⟨?_, ?_⟩
 ·unfold okTr okTs; exact ⟨by simp, trivial⟩
 ·unfold deepE deepL; omega
set_option maxHeartbeats 4000000 in
set_option maxRecDepth 100000 in
theorem plain_number (G bp : Nat) (s : ByteArray) (A : Option Addr) (c : Nat) (l : List Tok) (begun : Int) (fv : Value) (a : Nat) (w : World) (h : St G bp s A c l begun fv a w) (tk : Tok) (htk : looks (l.drop a) = tk) (h2 : tk.f0 = 2) (res : PR Ex) (hres : plainP (l.drop a) = res) :
  Calls Tryd.prog 92 #[.pointer (some ⟨bp, 0, none⟩)] w (Tells bp l no w (encE (Lo w.heap.size) 8) res) := by
 have hb1 := below_alloc (bR w.heap.size w) (.cells #[.int .i64 0, .string ⟨#[]⟩, .int .i64 0, .string ⟨#[]⟩, .int .i64 0, .string ⟨#[]⟩, .int .i64 0, .string ⟨#[]⟩, .int .i64 0, .string ⟨#[]⟩, .slice none 0 0] 56)
 have HO1 := aS (MapKept.heap_alloc w (.cells #[.int .i64 0, .string ⟨#[]⟩, .int .i64 0, .string ⟨#[]⟩, .int .i64 0, .string ⟨#[]⟩, .int .i64 0, .string ⟨#[]⟩, .int .i64 0, .string ⟨#[]⟩, .slice none 0 0] 56)).1
 have HA1 := aS ((h.same (X := no)).below h.lt hb1)
 have HS1 := aS (h.below hb1)
 have HN := aS (show w.heap.size ≠ bp by have := h.lt; omega)
 have HTK := aS htk
 have HQ := aS (congrArg some hres)
 have e1 : (tk.f0 == 2) = true := by rw [h2]; rfl
 have H2 := aS h2
 have hfld := tok_kind
 have hfld2 := tok_text
 clear h htk h2 hres hb1
 go_enter Tryd.func92, Tryd.ntmps92
 go_upto_region 1 with (fail)
 generalize w.alloc (.cells #[.int .i64 0, .string ⟨#[]⟩, .int .i64 0, .string ⟨#[]⟩, .int .i64 0, .string ⟨#[]⟩, .int .i64 0, .string ⟨#[]⟩, .int .i64 0, .string ⟨#[]⟩, .slice none 0 0] 56) = w1 at *
 go_upto_region 3 with (first
  | (go_at_call 33; refine (look_at bp s A c l begun fv a tk HTK.out _ HS1.out.ps).mono ?_; rintro e w2 ⟨rfl, hb⟩; have HA2 := aS (HA1.out.below HS1.out.lt hb); have HS2 := aS (HS1.out.below hb); have HO2 := aS (fbelow HO1.out hb); clear hb)
  | (go_at_call 52; refine calls_tells (single_tells HS2.out) ?_ ?bad; (case bad => exact (fun er t b a2 w' hq ht hb ha hat => And.intro rfl (tells_bad (show some (PR.bad er t) = some res by have q := HQ.out; unfold plainP at q; rw [hq] at q; exact q) ht hb ha (HA2.out.then_ hat)))); rintro d r b x w3 hq hr hb rfl hat; have HQ3 := aS hq; have HR3 := aS hr; have HA3 := aS (HA2.out.then_ hat); have HS3 := aS (HS2.out.next hat hb); have HO3 := aS (hat.obj HO2.out HN.out id); clear hq hr hb hat))
 have hb4 := below_alloc (bR w3.heap.size w3) (.cells #[.string d.f0, .int .i64 d.f1] 51); have HD4 := aS (MapKept.heap_alloc w3 (.cells #[.string d.f0, .int .i64 d.f1] 51)).1; have HA4 := aS (HA3.out.below HS3.out.lt hb4); have HS4 := aS (HS3.out.below hb4); have HO4 := aS (fbelow HO3.out hb4); have HND := aS (show w3.heap.size ≠ bp by have := HS3.out.lt; omega); have hnr : w3.heap.size ≠ w.heap.size := (by have := (Array.getElem?_eq_some_iff.1 HO3.out).1; omega); clear hb4; generalize w3.alloc (.cells #[.string d.f0, .int .i64 d.f1] 51) = w4 at *
 go_upto_region 5 with (go_at_call 39; refine calls_tells (need_tells ⟨#[39]⟩ HS4.out) ?_ ?bad; (case bad => exact (fun er t b a2 w' hq ht hb ha hat => And.intro rfl (tells_bad (show some (PR.bad er t) = some res by have q := HQ.out; unfold plainP at q; rw [HQ3.out] at q; dsimp only at q; rw [if_pos (by first | exact .inl (HTK.out.symm ▸ H2.out) | exact .inr HX.out), HR3.out, hq] at q; exact q) ht hb ha (HA4.out.then_ hat)))); rintro u5 r5 b5 x5 w5 hq hr hb rfl hat; have HQ5 := aS hq; have HR5 := aS hr; have HA5 := aS (HA4.out.then_ hat); have HS5 := aS (HS4.out.next hat hb); have hd5 := hat.obj HD4.out HND.out id; have HO5 := aS (hat.obj HO4.out HN.out id); have k0 := cH hd5 0; have k1 := cH hd5 1; have HD5 := aS hd5; clear hq hr hb hat hd5)
 have HDR := aS (below_drew (bR w5.heap.size w5))
 have HA5d := aS (HA5.out.below HS5.out.lt HDR.out)
 have HS5d := aS (HS5.out.below HDR.out)
 have HD5d := aS (fbelow HD5.out HDR.out)
 have HO5d := aS (fbelow HO5.out HDR.out)
 go_region_with (go_at_call 52; refine calls_tells (single_tells HS5d.out) ?_ ?bad; (case bad => exact (fun er t b a2 w' hq ht hb ha hat => And.intro rfl (tells_bad (show some (PR.bad er t) = some res by have q := HQ.out; unfold plainP at q; rw [HQ3.out] at q; dsimp only at q; rw [if_pos (by first | exact .inl (HTK.out.symm ▸ H2.out) | exact .inr HX.out), HR3.out, HQ5.out] at q; dsimp only at q; rw [HR5.out, hq] at q; exact q) ht hb ha (HA5d.out.then_ hat)))); rintro d6 r6 b6 x6 w6 hq hr hb rfl hat; have HQ6 := aS hq; have HR6 := aS hr; have HA6 := aS (HA5d.out.then_ hat); have HS6 := aS (HS5d.out.next hat hb); have hd6 := hat.obj HD5d.out HND.out id; have ho6 := hat.obj HO5d.out HN.out id; have n0 := cH hd6 0; have n1 := cH hd6 1; have f0 := blk_frozen ho6 0; have j0 := cH ho6 0; have f1 := blk_frozen ho6 1; have j1 := cH ho6 1; have f2 := blk_frozen ho6 2; have j2 := cH ho6 2; have f3 := blk_frozen ho6 3; have j3 := cH ho6 3; have f4 := blk_frozen ho6 4; have j4 := cH ho6 4; have f5 := blk_frozen ho6 5; have j5 := cH ho6 5; have f6 := blk_frozen ho6 6; have j6 := cH ho6 6; have f7 := blk_frozen ho6 7; have j7 := cH ho6 7; have f8 := blk_frozen ho6 8; have j8 := cH ho6 8; have f9 := blk_frozen ho6 9; have j9 := cH ho6 9; have f10 := blk_frozen ho6 10; have j10 := cH ho6 10; have HO6 := aS ho6; clear hq hr hb hat hd6 ho6)
 all_goals
  go_wp2
  have HA7 := HA6.out.fill11 (g := w.heap.size) (.inl (Nat.le_refl _)) HN.out (b0 := .int .i64 1) (b1 := .string d6.f0) (b2 := .int .i64 d6.f1) (b3 := .string d.f0) (b4 := .int .i64 d.f1) (b5 := .string ⟨#[]⟩) (b6 := .int .i64 0) (b7 := .string ⟨#[]⟩) (b8 := .int .i64 0) (b9 := .string ⟨#[]⟩) (b10 := .slice none 0 0); refine bodyPost_ret (v := .agg (exV (exLit d d6) (.slice none 0 0))) (results_cell rfl rfl (fill11 HO6.out) Tryd.underlying56 rfl (by kernel_rfl)) rfl (tells_ok (v := exLit d d6) (show some (PR.ok (exLit d d6) r6) = some res from ?_) HR6.out HS6.out.room ⟨none, 0, rfl, exR_nil _ _, nil_ok _ _ _ _ _ _⟩ HA7); have q := HQ.out; unfold plainP at q; rw [HQ3.out] at q; dsimp only at q; rw [if_pos (by first | exact .inl (HTK.out.symm ▸ H2.out) | exact .inr HX.out), HR3.out, HQ5.out] at q; dsimp only at q; rw [HR5.out, HQ6.out] at q; exact q
theorem single_small {l : List Tok} {a : Nat} {d : Dm} {r : List Tok} (hl : shortL l) (h : singleP (l.drop a) = .ok d r) : d.f0.size ≤ 140737488355328 := by
 rw [single_is] at h
 by_cases h1 : (looks (l.drop a)).f0 = 2
 ·rw [if_pos h1] at h; cases h; exact Nat.zero_le _
 ·rw [if_neg h1] at h
  by_cases h2 : (looks (l.drop a)).f0 = 1 ∧ wordP (txt (looks (l.drop a))) = false
  ·rw [if_pos h2] at h; cases h; exact looks_short hl a
  ·rw [if_neg h2] at h; cases h
theorem name_small {l : List Tok} {a : Nat} {d : ByteArray} {r : List Tok} (hl : shortL l) (h : nameP (l.drop a) = .ok d r) : d.size ≤ 140737488355328 := by
 unfold nameP at h
 by_cases h2 : (looks (l.drop a)).f0 = 1 ∧ wordP (txt (looks (l.drop a))) = false
 ·rw [if_pos h2] at h; cases h; exact looks_short hl a
 ·rw [if_neg h2, fail_at] at h; cases h
set_option maxHeartbeats 8000000 in
set_option maxRecDepth 100000 in
theorem plain_other (G bp : Nat) (s : ByteArray) (A : Option Addr) (c : Nat) (l : List Tok) (begun : Int) (fv : Value) (a : Nat) (w : World) (h : St G bp s A c l begun fv a w) (tk : Tok) (htk : looks (l.drop a) = tk) (h2 : tk.f0 ≠ 2) (res : PR Ex) (hres : plainP (l.drop a) = res) :
  Calls Tryd.prog 92 #[.pointer (some ⟨bp, 0, none⟩)] w (Tells bp l no w (encE (Lo w.heap.size) 8) res) := by
 have hb1 := below_alloc (bR w.heap.size w) (.cells #[.int .i64 0, .string ⟨#[]⟩, .int .i64 0, .string ⟨#[]⟩, .int .i64 0, .string ⟨#[]⟩, .int .i64 0, .string ⟨#[]⟩, .int .i64 0, .string ⟨#[]⟩, .slice none 0 0] 56)
 have HO1 := aS (MapKept.heap_alloc w (.cells #[.int .i64 0, .string ⟨#[]⟩, .int .i64 0, .string ⟨#[]⟩, .int .i64 0, .string ⟨#[]⟩, .int .i64 0, .string ⟨#[]⟩, .int .i64 0, .string ⟨#[]⟩, .slice none 0 0] 56)).1
 have HA1 := aS ((h.same (X := no)).below h.lt hb1)
 have HS1 := aS (h.below hb1)
 have HN := aS (show w.heap.size ≠ bp by have := h.lt; omega)
 have HTK := aS htk
 have HQ := aS (congrArg some hres)
 have HL := aS h.short
 have e1 : (tk.f0 == 2) = false := beq_eq_false_iff_ne.2 h2
 have H2 := aS h2
 have hfld := tok_kind
 have hfld2 := tok_text
 clear h htk h2 hres hb1
 go_enter Tryd.func92, Tryd.ntmps92
 go_upto_region 1 with (fail)
 generalize w.alloc (.cells #[.int .i64 0, .string ⟨#[]⟩, .int .i64 0, .string ⟨#[]⟩, .int .i64 0, .string ⟨#[]⟩, .int .i64 0, .string ⟨#[]⟩, .int .i64 0, .string ⟨#[]⟩, .slice none 0 0] 56) = w1 at *
 go_upto_region 3 with (first
  | (go_at_call 33; refine (look_at bp s A c l begun fv a tk HTK.out _ HS1.out.ps).mono ?_; rintro e w2 ⟨rfl, hb⟩; have HA2 := aS (HA1.out.below HS1.out.lt hb); have HS2 := aS (HS1.out.below hb); have HO2 := aS (fbelow HO1.out hb); clear hb)
  | (go_at_call 52; refine calls_tells (single_tells HS2.out) ?_ ?bad; (case bad => exact (fun er t b a2 w' hq ht hb ha hat => And.intro rfl (tells_bad (show some (PR.bad er t) = some res by have q := HQ.out; unfold plainP at q; rw [hq] at q; exact q) ht hb ha (HA2.out.then_ hat)))); rintro d r b x w3 hq hr hb rfl hat; have HQ3 := aS hq; have HR3 := aS hr; have HA3 := aS (HA2.out.then_ hat); have HS3 := aS (HS2.out.next hat hb); have HO3 := aS (hat.obj HO2.out HN.out id); clear hq hr hb hat))
 have hb4 := below_alloc (bR w3.heap.size w3) (.cells #[.string d.f0, .int .i64 d.f1] 51); have HD4 := aS (MapKept.heap_alloc w3 (.cells #[.string d.f0, .int .i64 d.f1] 51)).1; have HA4 := aS (HA3.out.below HS3.out.lt hb4); have HS4 := aS (HS3.out.below hb4); have HO4 := aS (fbelow HO3.out hb4); have HND := aS (show w3.heap.size ≠ bp by have := HS3.out.lt; omega); have hnr : w3.heap.size ≠ w.heap.size := (by have := (Array.getElem?_eq_some_iff.1 HO3.out).1; omega); clear hb4; generalize w3.alloc (.cells #[.string d.f0, .int .i64 d.f1] 51) = w4 at *
 obtain ⟨tk2, htk2⟩ : ∃ tk2, looks (l.drop b) = tk2 := ⟨_, rfl⟩
 have HT2 := aS htk2
 clear htk2
 by_cases hx : txt tk2 = [39]
 ·have HX := aS (show txt (looks r) = [39] by rw [HR3.out, HT2.out]; exact hx)
  have q0 : tk2.f1.toList = [39] := by rw [ByteArray.toList_eq]; exact hx
  have q1 : (tk2.f1.toList == ([39] : List UInt8)) = true := by rw [q0]; rfl
  have q2 : (tk2.f1.toList == (⟨#[39]⟩ : ByteArray).toList) = true := by rw [q0, ByteArray.toList_eq]; rfl
  clear hx q0
  go_upto_region 5 with (first
   | (go_at_call 33; refine (look_at bp s A c l begun fv b tk2 HT2.out _ HS4.out.ps).mono ?_; rintro e w4b ⟨rfl, hbl⟩; have HA4b := aS (HA4.out.below HS4.out.lt hbl); have HD4b := aS (fbelow HD4.out hbl); have HO4b := aS (fbelow HO4.out hbl); have HS4b := aS (HS4.out.below hbl); clear HA4 HS4 HD4 HO4 hbl; have HA4 := HA4b; have HS4 := HS4b; have HD4 := HD4b; have HO4 := HO4b; clear HA4b HS4b HD4b HO4b)
   | (go_at_call 39; refine calls_tells (need_tells ⟨#[39]⟩ HS4.out) ?_ ?bad; (case bad => exact (fun er t b a2 w' hq ht hb ha hat => And.intro rfl (tells_bad (show some (PR.bad er t) = some res by have q := HQ.out; unfold plainP at q; rw [HQ3.out] at q; dsimp only at q; rw [if_pos (by first | exact .inl (HTK.out.symm ▸ H2.out) | exact .inr HX.out), HR3.out, hq] at q; exact q) ht hb ha (HA4.out.then_ hat)))); rintro u5 r5 b5 x5 w5 hq hr hb rfl hat; have HQ5 := aS hq; have HR5 := aS hr; have HA5 := aS (HA4.out.then_ hat); have HS5 := aS (HS4.out.next hat hb); have hd5 := hat.obj HD4.out HND.out id; have HO5 := aS (hat.obj HO4.out HN.out id); have k0 := cH hd5 0; have k1 := cH hd5 1; have HD5 := aS hd5; clear hq hr hb hat hd5))
  have HDR := aS (below_drew (bR w5.heap.size w5))
  have HA5d := aS (HA5.out.below HS5.out.lt HDR.out)
  have HS5d := aS (HS5.out.below HDR.out)
  have HD5d := aS (fbelow HD5.out HDR.out)
  have HO5d := aS (fbelow HO5.out HDR.out)
  go_region_with (go_at_call 52; refine calls_tells (single_tells HS5d.out) ?_ ?bad; (case bad => exact (fun er t b a2 w' hq ht hb ha hat => And.intro rfl (tells_bad (show some (PR.bad er t) = some res by have q := HQ.out; unfold plainP at q; rw [HQ3.out] at q; dsimp only at q; rw [if_pos (by first | exact .inl (HTK.out.symm ▸ H2.out) | exact .inr HX.out), HR3.out, HQ5.out] at q; dsimp only at q; rw [HR5.out, hq] at q; exact q) ht hb ha (HA5d.out.then_ hat)))); rintro d6 r6 b6 x6 w6 hq hr hb rfl hat; have HQ6 := aS hq; have HR6 := aS hr; have HA6 := aS (HA5d.out.then_ hat); have HS6 := aS (HS5d.out.next hat hb); have hd6 := hat.obj HD5d.out HND.out id; have ho6 := hat.obj HO5d.out HN.out id; have n0 := cH hd6 0; have n1 := cH hd6 1; have f0 := blk_frozen ho6 0; have j0 := cH ho6 0; have f1 := blk_frozen ho6 1; have j1 := cH ho6 1; have f2 := blk_frozen ho6 2; have j2 := cH ho6 2; have f3 := blk_frozen ho6 3; have j3 := cH ho6 3; have f4 := blk_frozen ho6 4; have j4 := cH ho6 4; have f5 := blk_frozen ho6 5; have j5 := cH ho6 5; have f6 := blk_frozen ho6 6; have j6 := cH ho6 6; have f7 := blk_frozen ho6 7; have j7 := cH ho6 7; have f8 := blk_frozen ho6 8; have j8 := cH ho6 8; have f9 := blk_frozen ho6 9; have j9 := cH ho6 9; have f10 := blk_frozen ho6 10; have j10 := cH ho6 10; have HO6 := aS ho6; clear hq hr hb hat hd6 ho6)
  all_goals
   go_wp2
   have HA7 := HA6.out.fill11 (g := w.heap.size) (.inl (Nat.le_refl _)) HN.out (b0 := .int .i64 1) (b1 := .string d6.f0) (b2 := .int .i64 d6.f1) (b3 := .string d.f0) (b4 := .int .i64 d.f1) (b5 := .string ⟨#[]⟩) (b6 := .int .i64 0) (b7 := .string ⟨#[]⟩) (b8 := .int .i64 0) (b9 := .string ⟨#[]⟩) (b10 := .slice none 0 0); refine bodyPost_ret (v := .agg (exV (exLit d d6) (.slice none 0 0))) (results_cell rfl rfl (fill11 HO6.out) Tryd.underlying56 rfl (by kernel_rfl)) rfl (tells_ok (v := exLit d d6) (show some (PR.ok (exLit d d6) r6) = some res from ?_) HR6.out HS6.out.room ⟨none, 0, rfl, exR_nil _ _, nil_ok _ _ _ _ _ _⟩ HA7); have q := HQ.out; unfold plainP at q; rw [HQ3.out] at q; dsimp only at q; rw [if_pos (by first | exact .inl (HTK.out.symm ▸ H2.out) | exact .inr HX.out), HR3.out, HQ5.out] at q; dsimp only at q; rw [HR5.out, HQ6.out] at q; exact q
 ·have HX := aS (show ¬ ((looks (l.drop a)).f0 = 2 ∨ txt (looks r) = [39]) by rw [HR3.out, HT2.out, HTK.out]; exact fun q => q.elim H2.out hx)
  have q0 : tk2.f1.toList ≠ [39] := by rw [ByteArray.toList_eq]; exact hx
  have q1 : (tk2.f1.toList == ([39] : List UInt8)) = false := beq_eq_false_iff_ne.2 q0
  have q2 : (tk2.f1.toList == (⟨#[39]⟩ : ByteArray).toList) = false := by rw [ByteArray.toList_eq ⟨#[39]⟩]; exact q1
  have HZ := aS (single_small HL.out HQ3.out)
  clear hx q0
  go_upto_region 7 with (first
   | (go_at_call 33; refine (look_at bp s A c l begun fv b tk2 HT2.out _ HS4.out.ps).mono ?_; rintro e w4b ⟨rfl, hbl⟩; have HA4b := aS (HA4.out.below HS4.out.lt hbl); have HD4b := aS (fbelow HD4.out hbl); have HO4b := aS (fbelow HO4.out hbl); have HS4b := aS (HS4.out.below hbl); clear HA4 HS4 HD4 HO4 hbl; have HA4 := HA4b; have HS4 := HS4b; have HD4 := HD4b; have HO4 := HO4b; clear HA4b HS4b HD4b HO4b)
   | (go_at_call 36; refine calls_take (take_tells ⟨#[46]⟩ HS4.out) ?yes ?no; (case' no => (rintro w5 hq hat; have hb := HS4.out.room; have HQ5 := aS hq; have HA5 := aS (HA4.out.then_ hat); have HS5 := aS (HS4.out.next hat hb); have hd5 := hat.obj HD4.out HND.out id; have HO5 := aS (hat.obj HO4.out HN.out id); have k0 := cH hd5 0; have HD5 := aS hd5; have fd0 := blk_frozen hd5 0; clear hq hb hat hd5; have ho6 := HO5.out; have f0 := blk_frozen ho6 0; have j0 := cH ho6 0; have f1 := blk_frozen ho6 1; have j1 := cH ho6 1; have f2 := blk_frozen ho6 2; have j2 := cH ho6 2; have f3 := blk_frozen ho6 3; have j3 := cH ho6 3; have f4 := blk_frozen ho6 4; have j4 := cH ho6 4; have f5 := blk_frozen ho6 5; have j5 := cH ho6 5; have f6 := blk_frozen ho6 6; have j6 := cH ho6 6; have f7 := blk_frozen ho6 7; have j7 := cH ho6 7; have f8 := blk_frozen ho6 8; have j8 := cH ho6 8; have f9 := blk_frozen ho6 9; have j9 := cH ho6 9; have f10 := blk_frozen ho6 10; have j10 := cH ho6 10; clear ho6)); (case' yes => (rintro w5 hq hb hat; have HB5 := aS hb; have HQ5 := aS hq; have HA5 := aS (HA4.out.then_ hat); have HS5 := aS (HS4.out.next hat hb); have hd5 := hat.obj HD4.out HND.out id; have HO5 := aS (hat.obj HO4.out HN.out id); have k0 := cH hd5 0; have HD5 := aS hd5; have fd0 := blk_frozen hd5 0; clear hq hb hat hd5))))
  ·have HDR := aS (below_drew (bR w5.heap.size w5))
   have HA5d := aS (HA5.out.below HS5.out.lt HDR.out)
   have HS5d := aS (HS5.out.below HDR.out)
   have HD5d := aS (fbelow HD5.out HDR.out)
   have HO5d := aS (fbelow HO5.out HDR.out)
   go_region_with (go_at_call 35; refine calls_tells (name_tells HS5d.out) ?_ ?bad; (case bad => exact (fun er t b a2 w' hq ht hb ha hat => And.intro rfl (tells_bad (show some (PR.bad er t) = some res by have q := HQ.out; unfold plainP at q; rw [HQ3.out] at q; dsimp only at q; rw [if_neg HX.out, HR3.out, HQ5.out] at q; dsimp only at q; rw [hq] at q; exact q) ht hb ha (HA5d.out.then_ hat)))); rintro d6 r6 b6 x6 w6 hq hr hb rfl hat; have HQ6 := aS hq; have HR6 := aS hr; have HA6 := aS (HA5d.out.then_ hat); have HS6 := aS (HS5d.out.next hat hb); have hd6 := hat.obj HD5d.out HND.out id; have ho6 := hat.obj HO5d.out HN.out id; have hz6 := name_small HL.out hq; have s1 : (9223372036854775807 < 1 + d6.size) = False := eq_false (by omega); have s2 : (9223372036854775807 < d.f0.size + (1 + d6.size)) = False := eq_false (by have := HZ.out; omega); have n0 := cH hd6 0; have n1 := cH hd6 1; have fn0 := blk_frozen hd6 0; have HD6 := aS hd6; have HO6 := aS ho6; clear hq hr hb hat hd6 ho6 hz6)
   all_goals
    have ho6 : (w6.setCell ⟨w3.heap.size, 0, none⟩ (.string (d.f0 ++ ((⟨#[46]⟩ : ByteArray) ++ d6)))).heap[w.heap.size]? = some (.cells #[.int .i64 0, .string ⟨#[]⟩, .int .i64 0, .string ⟨#[]⟩, .int .i64 0, .string ⟨#[]⟩, .int .i64 0, .string ⟨#[]⟩, .int .i64 0, .string ⟨#[]⟩, .slice none 0 0] 56) := (Below.heap_setCell _ _ _ _ (Ne.symm hnr)).trans HO6.out
    have hd7 := set_heap (i := 0) (v := (.string (d.f0 ++ ((⟨#[46]⟩ : ByteArray) ++ d6)))) HD6.out
    have HA7 := aS (HA6.out.own (p := ⟨w3.heap.size, 0, none⟩) (.inl (by have := (Array.getElem?_eq_some_iff.1 HO3.out).1; show w.heap.size ≤ w3.heap.size; omega)) HND.out (.string (d.f0 ++ ((⟨#[46]⟩ : ByteArray) ++ d6))))
    have m0 := cH hd7 0
    have f0 := blk_frozen ho6 0; have j0 := cH ho6 0; have f1 := blk_frozen ho6 1; have j1 := cH ho6 1; have f2 := blk_frozen ho6 2; have j2 := cH ho6 2; have f3 := blk_frozen ho6 3; have j3 := cH ho6 3; have f4 := blk_frozen ho6 4; have j4 := cH ho6 4; have f5 := blk_frozen ho6 5; have j5 := cH ho6 5; have f6 := blk_frozen ho6 6; have j6 := cH ho6 6; have f7 := blk_frozen ho6 7; have j7 := cH ho6 7; have f8 := blk_frozen ho6 8; have j8 := cH ho6 8; have f9 := blk_frozen ho6 9; have j9 := cH ho6 9; have f10 := blk_frozen ho6 10; have j10 := cH ho6 10;
    have HO7 := aS ho6
    clear n0 n1 fn0 ho6 hd7
    generalize w6.setCell ⟨w3.heap.size, 0, none⟩ (.string (d.f0 ++ ((⟨#[46]⟩ : ByteArray) ++ d6))) = w7 at *
    go_wp2
    have HA8 := HA7.out.fill11 (g := w.heap.size) (.inl (Nat.le_refl _)) HN.out (b0 := .int .i64 2) (b1 := .string ⟨#[]⟩) (b2 := .int .i64 0) (b3 := .string ⟨#[]⟩) (b4 := .int .i64 0) (b5 := .string ⟨#[]⟩) (b6 := .int .i64 0) (b7 := .string ⟨#[]⟩) (b8 := .int .i64 0) (b9 := (.string (d.f0 ++ ((⟨#[46]⟩ : ByteArray) ++ d6)))) (b10 := .slice none 0 0)
    refine bodyPost_ret (v := .agg (exV (exRef (d.f0 ++ ((⟨#[46]⟩ : ByteArray) ++ d6))) (.slice none 0 0))) (results_cell rfl rfl (fill11 HO7.out) Tryd.underlying56 rfl (by kernel_rfl)) rfl (tells_ok (v := exRef (d.f0 ++ ((⟨#[46]⟩ : ByteArray) ++ d6))) (show some (PR.ok (exRef (d.f0 ++ ((⟨#[46]⟩ : ByteArray) ++ d6))) r6) = some res from ?_) HR6.out HS6.out.room ⟨none, 0, rfl, exR_nil _ _, nil_ok _ _ _ _ _ _⟩ HA8)
    have q := HQ.out
    unfold plainP at q
    rw [HQ3.out] at q
    dsimp only at q
    rw [if_neg HX.out, HR3.out, HQ5.out] at q
    dsimp only at q
    rw [HQ6.out] at q
    exact q
  ·have HA7 := HA5.out.fill11 (g := w.heap.size) (.inl (Nat.le_refl _)) HN.out (b0 := .int .i64 2) (b1 := .string ⟨#[]⟩) (b2 := .int .i64 0) (b3 := .string ⟨#[]⟩) (b4 := .int .i64 0) (b5 := .string ⟨#[]⟩) (b6 := .int .i64 0) (b7 := .string ⟨#[]⟩) (b8 := .int .i64 0) (b9 := .string d.f0) (b10 := .slice none 0 0); refine bodyPost_ret (v := .agg (exV (exRef d.f0) (.slice none 0 0))) (results_cell rfl rfl (fill11 HO5.out) Tryd.underlying56 rfl (by kernel_rfl)) rfl (tells_ok (v := exRef d.f0) (show some (PR.ok (exRef d.f0) r) = some res from ?_) HR3.out HS5.out.room ⟨none, 0, rfl, exR_nil _ _, nil_ok _ _ _ _ _ _⟩ HA7); have q := HQ.out; unfold plainP at q; rw [HQ3.out] at q; dsimp only at q; rw [if_neg HX.out, HR3.out, HQ5.out] at q; rw [HR3.out]; exact q
theorem plain_tells {G bp : Nat} {s : ByteArray} {A : Option Addr} {c : Nat} {l : List Tok} {begun : Int} {fv : Value} {a : Nat} {w : World} (h : St G bp s A c l begun fv a w) :
  Calls Tryd.prog 92 #[.pointer (some ⟨bp, 0, none⟩)] w (Tells bp l no w (encE (Lo w.heap.size) 8) (plainP (l.drop a))) := by
 by_cases h2 : (looks (l.drop a)).f0 = 2
 ·exact plain_number G bp s A c l begun fv a w h _ rfl h2 _ rfl
 ·exact plain_other G bp s A c l begun fv a w h _ rfl h2 _ rfl
theorem MapAt.look {g j : Nat} {L : List (List UInt8 × Int)} {w : World} (h : MapAt g j L w) (x : ByteArray) (hx : x.size ≤ 140737488355328) :
  ∃ bm, w.cell? ⟨g, j, none⟩ = some (.map (some bm)) ∧ (Instr.lookup 82 (.map (some bm)) (.string x) false).run Tryd.prog w = .ok (.int .i64 ((L.lookup x.data.toList).getD 0)) w := by
 obtain ⟨bm, n, hc, hown⟩ := h
 have hkey := keyOf_string_mk (s := x) Tryd.underlying9 (by unfold maxLen; omega)
 obtain ⟨c, hrun, hat, _⟩ := hown.lookup_int strKey Tryd.underlying82 Tryd.underlying3 (zeroInt w) hkey
 rw [atKey_enc] at hat
 cases hat
 exact ⟨bm, hc, hrun⟩
theorem exR_lit {ok : Nat → Prop} {w : World} (hok : ok w.heap.size) {xs : List Ex} {inner : List Value} (hr : Reps (k56.M w 0 ok) 11 xs inner) (hm : xs.length ≤ 1000) :
  ExR ok (w.alloc (.cells inner.toArray 56)) (.slice (some ⟨w.heap.size, 0, none⟩) xs.length xs.length) xs := by
 refine ⟨fun k hk => ?_, OwnRow.lit w 0 (hr.imp_ fun p c hp => ?_) (Nat.zero_le _) (by omega)⟩
 ·have : w.heap.size = k := by simpa [Value.ownBlock] using hk
  exact this ▸ hok
 ·refine Kd.M_below (w := w) ?_ (below_alloc (bR _ _) _)
  refine Kd.M_mono _ (fun k hk => ⟨hk.1, fun e => ?_⟩) (Kd.M_bound _ hp)
  have : k = w.heap.size := by simpa [Value.ownBlock] using e
  have := hk.2.2.1
  omega
section
variable {ok : Nat → Prop} {w : World} {x y z : Ex} {v u t : Value}
theorem ex_M (h : ExR ok w v x.f6) : k56.M w 0 ok x (exV x v).toList := k56_mkM w 0 _ x h
theorem reps_one (h : ExR ok w v x.f6) : Reps (k56.M w 0 ok) 11 [x] (exV x v).toList := (Reps.none _ 11).snoc (ex_M h) rfl
theorem reps_two (h : ExR ok w v x.f6) (h2 : ExR ok w u y.f6) : Reps (k56.M w 0 ok) 11 [x, y] ((exV x v).toList ++ (exV y u).toList) := (reps_one h).snoc (ex_M h2) rfl
theorem reps_three (h : ExR ok w v x.f6) (h2 : ExR ok w u y.f6) (h3 : ExR ok w t z.f6) : Reps (k56.M w 0 ok) 11 [x, y, z] ((exV x v).toList ++ (exV y u).toList ++ (exV z t).toList) := (reps_two h h2).snoc (ex_M h3) rfl
end
theorem okE_up {n : Nat} {op : Int} {d1 d2 d3 d4 : Dm} {s : ByteArray} {ks : List Ex} (hl : ks.length ≤ 1000000) (h : ∀ k ∈ ks, okE n k) : okE (n + 1) ⟨op, d1, d2, d3, d4, s, ks⟩ := by
 have h1 : ∀ ks : List Ex, (∀ k ∈ ks, okE n k) → okTs ks ∧ deepL ks ≤ n + 1 := by
  intro ks
  induction ks with
  | nil => intro _; exact ⟨by unfold okTs; trivial, by unfold deepL; omega⟩
  | cons y ys ih =>
   intro h
   have hy := h y (by simp)
   have hr := ih (fun k hk => h k (List.mem_cons_of_mem _ hk))
   unfold okTs deepL
   exact ⟨⟨hy.1, hr.1⟩, Nat.max_le.2 ⟨by have := hy.2; omega, hr.2⟩⟩
 have h2 := h1 ks h
 exact ⟨by unfold okTr; exact ⟨hl, h2.1⟩, by unfold deepE; exact h2.2⟩
def BetweenT (G bp : Nat) (s : ByteArray) (A : Option Addr) (c : Nat) (l : List Tok) (begun : Int) (fv : Value) (k : Nat) : Prop :=
 ∀ (lev : Nat) (z : Int) (a : Nat) (w : World) (res : PR Ex), z = (lev : Int) → lev ≤ 6 → St G bp s A c l begun fv a w → betweenP k lev (l.drop a) = some res → Calls Tryd.prog 79 #[.pointer (some ⟨bp, 0, none⟩), .int .i64 z] w (Tells bp l no w (encE (Lo w.heap.size) 8) res)
def ExprT (G bp : Nat) (s : ByteArray) (A : Option Addr) (c : Nat) (l : List Tok) (begun : Int) (fv : Value) (k : Nat) : Prop :=
 ∀ (a : Nat) (w : World) (res : PR Ex), St G bp s A c l begun fv a w → exprP k (l.drop a) = some res → Calls Tryd.prog 71 #[.pointer (some ⟨bp, 0, none⟩)] w (Tells bp l no w (encE (Lo w.heap.size) 8) res)
def UnaryT (G bp : Nat) (s : ByteArray) (A : Option Addr) (c : Nat) (l : List Tok) (begun : Int) (fv : Value) (k : Nat) : Prop :=
 ∀ (a : Nat) (w : World) (res : PR Ex), St G bp s A c l begun fv a w → unaryP k (l.drop a) = some res → Calls Tryd.prog 85 #[.pointer (some ⟨bp, 0, none⟩)] w (Tells bp l no w (encE (Lo w.heap.size) 8) res)
def PrimaryT (G bp : Nat) (s : ByteArray) (A : Option Addr) (c : Nat) (l : List Tok) (begun : Int) (fv : Value) (k : Nat) : Prop :=
 ∀ (a : Nat) (w : World) (res : PR Ex), St G bp s A c l begun fv a w → primaryP k (l.drop a) = some res → Calls Tryd.prog 90 #[.pointer (some ⟨bp, 0, none⟩)] w (Tells bp l no w (encE (Lo w.heap.size) 8) res)
set_option maxHeartbeats 4000000 in
set_option maxRecDepth 100000 in
theorem between_six (G bp : Nat) (s : ByteArray) (A : Option Addr) (c : Nat) (l : List Tok) (begun : Int) (fv : Value) (k : Nat) (hU : UnaryT G bp s A c l begun fv k) (a : Nat) (w : World) (res : PR Ex) (h : St G bp s A c l begun fv a w) (hres : betweenP (k + 1) 6 (l.drop a) = some res) :
  Calls Tryd.prog 79 #[.pointer (some ⟨bp, 0, none⟩), .int .i64 6] w (Tells bp l no w (encE (Lo w.heap.size) 8) res) := by
 have hb1 := below_alloc (bR w.heap.size w) (.cells #[.int .i64 0, .string ⟨#[]⟩, .int .i64 0, .string ⟨#[]⟩, .int .i64 0, .string ⟨#[]⟩, .int .i64 0, .string ⟨#[]⟩, .int .i64 0, .string ⟨#[]⟩, .slice none 0 0] 56); have HO1 := aS (MapKept.heap_alloc w (.cells #[.int .i64 0, .string ⟨#[]⟩, .int .i64 0, .string ⟨#[]⟩, .int .i64 0, .string ⟨#[]⟩, .int .i64 0, .string ⟨#[]⟩, .int .i64 0, .string ⟨#[]⟩, .slice none 0 0] 56)).1; have HA1 := aS ((h.same (X := no)).below h.lt hb1); have HS1 := aS (h.below hb1); have HN := aS (show w.heap.size ≠ bp by have := h.lt; omega); have HW := aS h.lt; have HZ := aS (show (w.alloc (.cells #[.int .i64 0, .string ⟨#[]⟩, .int .i64 0, .string ⟨#[]⟩, .int .i64 0, .string ⟨#[]⟩, .int .i64 0, .string ⟨#[]⟩, .int .i64 0, .string ⟨#[]⟩, .slice none 0 0] 56)).heap.size = w.heap.size + 1 by show (w.heap.push _).size = _; simp); clear h hb1
 have HQ := aS (show unaryP k (l.drop a) = some res by rw [← hres]; exact id rfl)
 clear hres
 have HU := aS hU
 clear hU
 go_enter Tryd.func79, Tryd.ntmps79
 go_upto_region 1 with (fail)
 generalize w.alloc (.cells #[.int .i64 0, .string ⟨#[]⟩, .int .i64 0, .string ⟨#[]⟩, .int .i64 0, .string ⟨#[]⟩, .int .i64 0, .string ⟨#[]⟩, .int .i64 0, .string ⟨#[]⟩, .slice none 0 0] 56) = w1 at *
 go_wp2_with (go_at_call 85; refine calls_tells (HU.out a w1 res HS1.out HQ.out) ?_ ?bad; (case bad => exact (fun er t b a2 w' hq ht hb ha hat => And.intro rfl (tells_bad (by rw [hq]) ht hb ha (HA1.out.then_ hat)))); rintro x r b v w2 hq hr hb ⟨B, q, rfl, hx, ho⟩ hat; have HQ2 := aS hq; have HR2 := aS hr; have HB2 := aS hb; have HX := aS hx; have HOK := aS ho; have HA2 := aS (HA1.out.then_ hat); have ho6 := hat.obj HO1.out HN.out id; have f0 := blk_frozen ho6 0; have j0 := cH ho6 0; have f1 := blk_frozen ho6 1; have j1 := cH ho6 1; have f2 := blk_frozen ho6 2; have j2 := cH ho6 2; have f3 := blk_frozen ho6 3; have j3 := cH ho6 3; have f4 := blk_frozen ho6 4; have j4 := cH ho6 4; have f5 := blk_frozen ho6 5; have j5 := cH ho6 5; have f6 := blk_frozen ho6 6; have j6 := cH ho6 6; have f7 := blk_frozen ho6 7; have j7 := cH ho6 7; have f8 := blk_frozen ho6 8; have j8 := cH ho6 8; have f9 := blk_frozen ho6 9; have j9 := cH ho6 9; have f10 := blk_frozen ho6 10; have j10 := cH ho6 10; have HO6 := aS ho6; clear hq hr hb hx ho hat ho6)
 have HA3 := HA2.out.fill11 (g := w.heap.size) (.inl (Nat.le_refl _)) HN.out (b0 := .int .i64 x.f0) (b1 := .string x.f1.f0) (b2 := .int .i64 x.f1.f1) (b3 := .string x.f2.f0) (b4 := .int .i64 x.f2.f1) (b5 := .string x.f3.f0) (b6 := .int .i64 x.f3.f1) (b7 := .string x.f4.f0) (b8 := .int .i64 x.f4.f1) (b9 := .string x.f5) (b10 := .slice B x.f6.length q)
 refine bodyPost_ret (v := .agg (exV x (.slice B x.f6.length q))) (results_cell rfl rfl (fill11 HO6.out) Tryd.underlying56 rfl (by kernel_rfl)) rfl (tells_ok (by rw [HQ2.out]) HR2.out HB2.out ⟨B, q, rfl, (HX.out.fill11 (fun k hk => ?_)).mono (fun k hk => ?_), HOK.out⟩ HA3)
 ·have := HZ.out; have hk : w1.heap.size ≤ k := hk; omega
 ·have := HZ.out; have hk : w1.heap.size ≤ k := hk; show w.heap.size ≤ k; omega
abbrev But (o g : Nat) : Nat → Prop := fun k => o < k ∧ k ≠ g
set_option maxHeartbeats 8000000 in
set_option maxRecDepth 100000 in
theorem between_less (G bp : Nat) (s : ByteArray) (A : Option Addr) (c : Nat) (l : List Tok) (begun : Int) (fv : Value) (k : Nat) (hB : ∀ j, j ≤ k → BetweenT G bp s A c l begun fv j) (lev : Nat) (hlev : lev ≤ 5) (a : Nat) (w : World) (res : PR Ex) (h : St G bp s A c l begun fv a w) (hres : betweenP (k + 1) lev (l.drop a) = some res) :
  Calls Tryd.prog 79 #[.pointer (some ⟨bp, 0, none⟩), .int .i64 lev] w (Tells bp l no w (encE (Lo w.heap.size) 8) res) := by
 have hb1 := below_alloc (bR w.heap.size w) (.cells #[.int .i64 0, .string ⟨#[]⟩, .int .i64 0, .string ⟨#[]⟩, .int .i64 0, .string ⟨#[]⟩, .int .i64 0, .string ⟨#[]⟩, .int .i64 0, .string ⟨#[]⟩, .slice none 0 0] 56); have HO1 := aS (MapKept.heap_alloc w (.cells #[.int .i64 0, .string ⟨#[]⟩, .int .i64 0, .string ⟨#[]⟩, .int .i64 0, .string ⟨#[]⟩, .int .i64 0, .string ⟨#[]⟩, .int .i64 0, .string ⟨#[]⟩, .slice none 0 0] 56)).1; have HA1 := aS ((h.same (X := no)).below h.lt hb1); have HS1 := aS (h.below hb1); have HN := aS (show w.heap.size ≠ bp by have := h.lt; omega); have HW := aS h.lt; have HZ := aS (show (w.alloc (.cells #[.int .i64 0, .string ⟨#[]⟩, .int .i64 0, .string ⟨#[]⟩, .int .i64 0, .string ⟨#[]⟩, .int .i64 0, .string ⟨#[]⟩, .int .i64 0, .string ⟨#[]⟩, .slice none 0 0] 56)).heap.size = w.heap.size + 1 by show (w.heap.push _).size = _; simp); clear h hb1
 have HQ := aS (show (andThen (betweenP k (lev + 1) (l.drop a)) fun a r1 => loopP k lev a r1) = some res by rw [← hres, betweenP, if_neg (by omega)])
 clear hres
 have HB := aS hB
 clear hB
 have e6 : ((lev : Int) == 6) = false := beq_eq_false_iff_ne.2 (by omega)
 have hl0 : 0 ≤ (lev : Int) := by omega
 have hl5 : (lev : Int) ≤ 5 := by omega
 obtain ⟨res1, hres1⟩ : ∃ y, betweenP k (lev + 1) (l.drop a) = some y := by
  cases hq : betweenP k (lev + 1) (l.drop a) with
  | none => have q := HQ.out; rw [hq] at q; cases q
  | some y => exact ⟨y, rfl⟩
 have HR1 := aS hres1
 have HL := aS hlev
 clear hres1 hlev
 go_enter Tryd.func79, Tryd.ntmps79
 go_upto_region 1 with (fail)
 generalize w.alloc (.cells #[.int .i64 0, .string ⟨#[]⟩, .int .i64 0, .string ⟨#[]⟩, .int .i64 0, .string ⟨#[]⟩, .int .i64 0, .string ⟨#[]⟩, .int .i64 0, .string ⟨#[]⟩, .slice none 0 0] 56) = w1 at *
 go_wp2_with (go_at_call 79; refine calls_tells (HB.out k (Nat.le_refl _) (lev + 1) _ a w1 res1 (by omega) (by have := HL.out; omega) HS1.out HR1.out) ?_ ?bad; (case bad => exact (fun er t b a2 w' hq ht hb ha hat => And.intro rfl (tells_bad (show some (PR.bad er t) = some res by have q := HQ.out; rw [HR1.out, hq] at q; exact q) ht hb ha (HA1.out.then_ hat)))); rintro x r b v w2 hq hr hb ⟨B, q, rfl, hx, ho⟩ hat; have HQ2 := aS hq; have HR2 := aS hr; have HX := aS hx; have HOK := aS ho; have HA2 := aS (HA1.out.then_ hat); have HS2 := aS (HS1.out.next hat hb); have HO2 := aS (hat.obj HO1.out HN.out id); have HZ2 := aS (hat.size); clear hq hr hb hx ho hat)
 have hb3 := below_alloc (bR w2.heap.size w2) (.cells #[.int .i64 x.f0, .string x.f1.f0, .int .i64 x.f1.f1, .string x.f2.f0, .int .i64 x.f2.f1, .string x.f3.f0, .int .i64 x.f3.f1, .string x.f4.f0, .int .i64 x.f4.f1, .string x.f5, .slice B x.f6.length q] 56)
 have HXO3 := aS (MapKept.heap_alloc w2 (.cells #[.int .i64 x.f0, .string x.f1.f0, .int .i64 x.f1.f1, .string x.f2.f0, .int .i64 x.f2.f1, .string x.f3.f0, .int .i64 x.f3.f1, .string x.f4.f0, .int .i64 x.f4.f1, .string x.f5, .slice B x.f6.length q] 56)).1
 have HA3 := aS (HA2.out.below HS2.out.lt hb3)
 have HS3 := aS (HS2.out.below hb3)
 have HO3 := aS (fbelow HO2.out hb3)
 have HX3 := aS ((HX.out.bound.below hb3).mono (ok' := But w.heap.size w2.heap.size) (fun k hk => ⟨by have h1 : w1.heap.size ≤ k := hk.1; have := HZ.out; omega, by have := hk.2; omega⟩))
 have HAB := aS (show w2.heap.size ≠ bp ∧ w.heap.size < w2.heap.size by have h1 := HZ2.out; have h2 := HZ.out; have h3 := HW.out; exact ⟨by omega, by omega⟩)
 have HQ3 := aS (show loopP k lev x (l.drop b) = some res by have q := HQ.out; rw [HR1.out, HQ2.out, HR2.out] at q; exact q)
 clear hb3
 generalize w2.alloc (.cells #[.int .i64 x.f0, .string x.f1.f0, .int .i64 x.f1.f1, .string x.f2.f0, .int .i64 x.f2.f1, .string x.f3.f0, .int .i64 x.f3.f1, .string x.f4.f0, .int .i64 x.f4.f1, .string x.f5, .slice B x.f6.length q] 56) = w3 at *
 generalize w2.heap.size = ab at *
 go_loopg [] k (fun kq w' => ∃ (a' : Nat) (x : Ex) (B : Option Addr) (q : Nat), Aside0 (kq ≤ k) ∧ Aside0 (loopP kq lev x (l.drop a') = some res) ∧ Aside0 (At bp a' no w w') ∧ Aside0 (St G bp s A c l begun fv a' w') ∧ Aside0 (w'.heap[w.heap.size]? = some (.cells #[.int .i64 0, .string ⟨#[]⟩, .int .i64 0, .string ⟨#[]⟩, .int .i64 0, .string ⟨#[]⟩, .int .i64 0, .string ⟨#[]⟩, .int .i64 0, .string ⟨#[]⟩, .slice none 0 0] 56)) ∧ Aside0 (w'.heap[ab]? = some (.cells #[.int .i64 x.f0, .string x.f1.f0, .int .i64 x.f1.f1, .string x.f2.f0, .int .i64 x.f2.f1, .string x.f3.f0, .int .i64 x.f3.f1, .string x.f4.f0, .int .i64 x.f4.f1, .string x.f5, .slice B x.f6.length q] 56)) ∧ Aside0 (ExR (But w.heap.size ab) w' (.slice B x.f6.length q) x.f6) ∧ Aside0 (okE 8 x))
 case atStart => exact ⟨b, x, B, q, ⟨Nat.le_refl _⟩, HQ3, HA3, HS3, HO3, HXO3, HX3, HOK⟩
 case round =>
  clear HQ3 HA3 HS3 HO3 HXO3 HX3 HOK HQ2 HR2 HX HA2 HS2 HO2 HZ2 HR1 HQ
  obtain ⟨a', x, B, q, HK, HLP, HA, HS, HO, HXO, HX, HOK⟩ := hrel
  obtain ⟨j, rfl⟩ : ∃ j, gk = j + 1 := by
   cases gk with
   | zero => have q := HLP.out; unfold loopP at q; cases q
   | succ j => exact ⟨j, rfl⟩
  obtain ⟨tk, htk⟩ : ∃ tk, looks (l.drop a') = tk := ⟨_, rfl⟩
  have HTK := aS htk
  have hsz := looks_short HS.out.short a'
  rw [htk] at hsz
  have HSZ := aS hsz
  clear htk hsz
  have y2 := blk_cell HS.out.blk 2
  go_upto_region 7 with (go_at_call 33; refine (look_at bp s A c l begun fv a' tk HTK.out _ HS.out.ps).mono ?_; rintro e w5 ⟨rfl, hb⟩; have HA5 := aS (HA.out.below HS.out.lt hb); have HS5 := aS (HS.out.below hb); have HO5 := aS (fbelow HO.out hb); have HXO5 := aS (fbelow HXO.out hb); have HX5 := aS (HX.out.below hb); clear hb)
  clear y2 HA HS HO HXO HX
  have hb6 := below_alloc (bR w5.heap.size w5) (.cells #[.int .i64 tk.f0, .string tk.f1, .int .i64 tk.f2, .int .i64 tk.f3] 37)
  have ht6 := (MapKept.heap_alloc w5 (.cells #[.int .i64 tk.f0, .string tk.f1, .int .i64 tk.f2, .int .i64 tk.f3] 37)).1
  have HA6 := aS (HA5.out.below HS5.out.lt hb6)
  have HS6 := aS (HS5.out.below hb6)
  have HO6 := aS (fbelow HO5.out hb6)
  have HXO6 := aS (fbelow HXO5.out hb6)
  have HX6 := aS (HX5.out.below hb6)
  have t0 := cH ht6 0
  have t1 := cH ht6 1
  clear hb6 ht6
  generalize w5.alloc (.cells #[.int .i64 tk.f0, .string tk.f1, .int .i64 tk.f2, .int .i64 tk.f3] 37) = w6 at *
  clear HA5 HS5 HO5 HXO5 HX5
  by_cases hk3 : tk.f0 = 3
  ·have e3 : (tk.f0 == 3) = true := by rw [hk3]; rfl
   obtain ⟨bm, hbm, hlk⟩ := MapAt.look (w := w6.drew) (HS6.out.tab.tab.levels lev (by omega)) tk.f1 HSZ.out
   obtain ⟨op, hop⟩ : ∃ op, levelV lev (txt tk) = op := ⟨_, rfl⟩
   have hlk2 : (Instr.lookup 82 (.map (some bm)) (.string tk.f1) false).run Tryd.prog w6.drew = .ok (.int .i64 op) w6.drew := by rw [← hop]; exact hlk
   clear hlk
   have hbm6 : w6.cell? ⟨5, lev, none⟩ = some (.map (some bm)) := hbm
   have HK3 := aS hk3
   have HOP := aS hop
   clear hk3 hop
   by_cases h0 : op = 0
   ·have e0 : (op == 0) = true := by rw [h0]; rfl
    have HR6 := aS (show some (PR.ok x (l.drop a')) = some res by rw [← HLP.out, loopP, if_pos (by rw [HTK.out]; unfold opP; rw [if_pos HK3.out, HOP.out]; exact h0)])
    clear h0
    have m0 := cH HXO6.out 0; have m1 := cH HXO6.out 1; have m2 := cH HXO6.out 2; have m3 := cH HXO6.out 3; have m4 := cH HXO6.out 4; have m5 := cH HXO6.out 5; have m6 := cH HXO6.out 6; have m7 := cH HXO6.out 7; have m8 := cH HXO6.out 8; have m9 := cH HXO6.out 9; have m10 := cH HXO6.out 10;
    have ho6 := HO6.out
    have f0 := blk_frozen ho6 0; have j0 := cH ho6 0; have f1 := blk_frozen ho6 1; have j1 := cH ho6 1; have f2 := blk_frozen ho6 2; have j2 := cH ho6 2; have f3 := blk_frozen ho6 3; have j3 := cH ho6 3; have f4 := blk_frozen ho6 4; have j4 := cH ho6 4; have f5 := blk_frozen ho6 5; have j5 := cH ho6 5; have f6 := blk_frozen ho6 6; have j6 := cH ho6 6; have f7 := blk_frozen ho6 7; have j7 := cH ho6 7; have f8 := blk_frozen ho6 8; have j8 := cH ho6 8; have f9 := blk_frozen ho6 9; have j9 := cH ho6 9; have f10 := blk_frozen ho6 10; have j10 := cH ho6 10;
    clear ho6
    go_upto_region 8 with (fail)
    go_region
    all_goals
     go_wp2
     exact ret_fillD rfl rfl HO6.out HA6.out HN.out (.inl (Nat.le_refl _)) (fun k hk => by have := hk.1; omega) (fun k hk => Nat.le_of_lt hk.1) HX6.out HOK.out HR6.out rfl HS6.out.room
   ·have e0 : (op == 0) = false := beq_eq_false_iff_ne.2 h0
    have HH0 := aS h0
    clear h0
    have hlt := looks_lt (l := l) (a := a') (by rw [HTK.out, HK3.out]; decide)
    have hsm := HS6.out.small
    go_upto_region 8 with (fail)
    go_region
    all_goals
     clear hlk2 hbm6 hbm
     have HA7 := aS HA6.out.drew
     have HS7 := aS (HS6.out.below (below_drew (bR _ _)))
     have HO7 := aS (heap_drew HO6.out)
     have HXO7 := aS (heap_drew HXO6.out)
     have HX7 := aS HX6.out.drew
     have y2 := blk_cell HS7.out.blk 2
     have f2 := blk_frozen HS7.out.blk 2
     clear t0 t1 HA6 HS6 HO6 HXO6 HX6
     generalize w6.drew = w7 at *
     go_upto_region 12 with (fail)
     have hat8 : At bp (a' + 1) no w7 (w7.setCell ⟨bp, 2, none⟩ (.int .i64 ((a' : Int) + 1))) := at_set (bR _ _)
     have HA8 := aS (HA7.out.then_ hat8)
     have HS8 := aS (HS7.out.next hat8 hlt)
     have HO8 := aS (hat8.obj HO7.out HN.out id)
     have HXO8 := aS (hat8.obj HXO7.out HAB.out.1 id)
     have HX8 := aS (HX7.out.no hat8 (fun k hk => by have := hk.1; have := HW.out; omega))
     clear y2 f2 hat8 HA7 HS7 HO7 HXO7 HX7
     generalize w7.setCell ⟨bp, 2, none⟩ (.int .i64 ((a' : Int) + 1)) = w8 at *
     have HL2 := aS (show (andThen (betweenP j (lev + 1) (l.drop (a' + 1))) fun y r1 => andThen (madeP (l.drop a') (exK op [x, y]) r1) fun z r2 => if lev = 3 then some (.ok z r2) else loopP j lev z r2) = some res by
      have q := HLP.out
      rw [loopP, HTK.out, show opP lev tk = op by unfold opP; rw [if_pos HK3.out]; exact HOP.out, if_neg HH0.out, tail_drop] at q
      exact q)
     obtain ⟨res2, hres2⟩ : ∃ y, betweenP j (lev + 1) (l.drop (a' + 1)) = some y := by
      cases hq : betweenP j (lev + 1) (l.drop (a' + 1)) with
      | none => have q := HL2.out; rw [hq] at q; cases q
      | some y => exact ⟨y, rfl⟩
     have HR8 := aS hres2
     have HSZ8 := aS (show w.heap.size < w8.heap.size ∧ ab < w8.heap.size from ⟨(Array.getElem?_eq_some_iff.1 HO8.out).1, (Array.getElem?_eq_some_iff.1 HXO8.out).1⟩)
     clear hres2 HLP
     go_upto_region 13 with (go_at_call 79; refine calls_tells (HB.out j (by have := HK.out; omega) (lev + 1) _ (a' + 1) w8 res2 (by omega) (by have := HL.out; omega) HS8.out HR8.out) ?_ ?bad; (case bad => exact (fun er t b a2 w' hq ht hb ha hat => And.intro rfl (tells_bad (show some (PR.bad er t) = some res by have q := HL2.out; rw [HR8.out, hq] at q; exact q) ht hb ha (HA8.out.then_ hat)))); rintro y r2 b2 v w9 hq hr hb ⟨C, p, rfl, hy, ho⟩ hat; have HQ9 := aS hq; have HR9 := aS hr; have HY9 := aS hy; have HOY := aS ho; have HA9 := aS (HA8.out.then_ hat); have HS9 := aS (HS8.out.next hat hb); have HO9 := aS (hat.obj HO8.out HN.out id); have HXO9 := aS (hat.obj HXO8.out HAB.out.1 id); have HX9 := aS (HX8.out.no hat (fun k hk => by have := hk.1; have := HW.out; omega)); have HZ9 := aS hat.size; clear hq hr hb hy ho hat)
     have hb10 := below_alloc (bR w9.heap.size w9) (.cells #[.int .i64 y.f0, .string y.f1.f0, .int .i64 y.f1.f1, .string y.f2.f0, .int .i64 y.f2.f1, .string y.f3.f0, .int .i64 y.f3.f1, .string y.f4.f0, .int .i64 y.f4.f1, .string y.f5, .slice C y.f6.length p] 56)
     have HYO10 := aS (MapKept.heap_alloc w9 (.cells #[.int .i64 y.f0, .string y.f1.f0, .int .i64 y.f1.f1, .string y.f2.f0, .int .i64 y.f2.f1, .string y.f3.f0, .int .i64 y.f3.f1, .string y.f4.f0, .int .i64 y.f4.f1, .string y.f5, .slice C y.f6.length p] 56)).1
     have HA10 := aS (HA9.out.below HS9.out.lt hb10)
     have HS10 := aS (HS9.out.below hb10)
     have HO10 := aS (fbelow HO9.out hb10)
     have HXO10 := aS (fbelow HXO9.out hb10)
     have HX10 := aS (HX9.out.below hb10)
     have HY10 := aS ((HY9.out.below hb10).mono (ok' := But w.heap.size ab) (fun k hk => ⟨by have h1 : w8.heap.size ≤ k := hk; have := HSZ8.out.1; omega, by have h1 : w8.heap.size ≤ k := hk; have := HSZ8.out.2; omega⟩))
     clear hb10 HA9 HS9 HO9 HXO9 HX9 HY9
     generalize w9.alloc (.cells #[.int .i64 y.f0, .string y.f1.f0, .int .i64 y.f1.f1, .string y.f2.f0, .int .i64 y.f2.f1, .string y.f3.f0, .int .i64 y.f3.f1, .string y.f4.f0, .int .i64 y.f4.f1, .string y.f5, .slice C y.f6.length p] 56) = w10 at *
     have HSZ10 := aS (show w.heap.size < w10.heap.size ∧ ab < w10.heap.size from ⟨(Array.getElem?_eq_some_iff.1 HO10.out).1, (Array.getElem?_eq_some_iff.1 HXO10.out).1⟩)
     have HROW := aS (exR_lit (ok := But w.heap.size ab) (w := w10) ⟨HSZ10.out.1, by have := HSZ10.out.2; omega⟩ (reps_two HX10.out HY10.out) (by simp))
     have HBR := aS (below_alloc (bR w10.heap.size w10) (.cells (((exV x (.slice B x.f6.length q)).toList ++ (exV y (.slice C y.f6.length p)).toList).toArray) 56))
     obtain ⟨res3, hres3⟩ : ∃ z, madeP (l.drop a') (exK op [x, y]) (l.drop b2) = some z := ⟨_, rfl⟩
     have HR10 := aS hres3
     have HLT := aS hlt
     have HOE := aS (show okE 9 (exK op [x, y]) from okE_up (by simp) (fun k hk => by rcases List.mem_cons.1 hk with rfl | hk; exact HOK.out; rcases List.mem_cons.1 hk with rfl | hk; exact HOY.out; cases hk))
     clear hres3
     have m0 := cH HXO10.out 0; have n0 := cH HYO10.out 0; have m1 := cH HXO10.out 1; have n1 := cH HYO10.out 1; have m2 := cH HXO10.out 2; have n2 := cH HYO10.out 2; have m3 := cH HXO10.out 3; have n3 := cH HYO10.out 3; have m4 := cH HXO10.out 4; have n4 := cH HYO10.out 4; have m5 := cH HXO10.out 5; have n5 := cH HYO10.out 5; have m6 := cH HXO10.out 6; have n6 := cH HYO10.out 6; have m7 := cH HXO10.out 7; have n7 := cH HYO10.out 7; have m8 := cH HXO10.out 8; have n8 := cH HYO10.out 8; have m9 := cH HXO10.out 9; have n9 := cH HYO10.out 9; have m10 := cH HXO10.out 10; have n10 := cH HYO10.out 10;
     go_upto_region 14 with (go_at_call 80; refine calls_tells (made_tells G bp s A c l begun fv b2 _ (HS10.out.below HBR.out) 9 (by omega) (exK op [x, y]) _ (But w.heap.size ab) (fun k hk => by have := hk.1; have := HW.out; omega) ⟨_, _, rfl, HROW.out, HOE.out⟩ a' (Nat.le_of_lt HLT.out) res3 HR10.out) ?_ ?bad; (case bad => exact (fun er t b a2 w' hq ht hb ha hat => And.intro rfl (tells_bad (show some (PR.bad er t) = some res by have q := HL2.out; rw [HR8.out, HQ9.out] at q; dsimp only [andThen] at q; rw [HR9.out, HR10.out, hq] at q; exact q) ht hb ha ((HA10.out.below HS10.out.lt HBR.out).then_ hat)))); rintro z r3 b3 v3 w11 hq hr hb ⟨D, u, rfl, hz, hoz⟩ hat; have HQ11 := aS hq; have HR11 := aS hr; have HZ11 := aS hz; have HOZ := aS hoz; have HA11 := aS ((HA10.out.below HS10.out.lt HBR.out).then_ hat); have HS11 := aS ((HS10.out.below HBR.out).next hat hb); have HO11 := aS (hat.obj (fbelow HO10.out HBR.out) HN.out id); have ho6 := hat.obj (fbelow HXO10.out HBR.out) HAB.out.1 id; have f0 := blk_frozen ho6 0; have j0 := cH ho6 0; have f1 := blk_frozen ho6 1; have j1 := cH ho6 1; have f2 := blk_frozen ho6 2; have j2 := cH ho6 2; have f3 := blk_frozen ho6 3; have j3 := cH ho6 3; have f4 := blk_frozen ho6 4; have j4 := cH ho6 4; have f5 := blk_frozen ho6 5; have j5 := cH ho6 5; have f6 := blk_frozen ho6 6; have j6 := cH ho6 6; have f7 := blk_frozen ho6 7; have j7 := cH ho6 7; have f8 := blk_frozen ho6 8; have j8 := cH ho6 8; have f9 := blk_frozen ho6 9; have j9 := cH ho6 9; have f10 := blk_frozen ho6 10; have j10 := cH ho6 10; have HXO11 := aS ho6; clear hq hr hb hz hoz hat ho6)
     have HL3 := aS (show (if lev = 3 then some (.ok z r3) else loopP j lev z r3) = some res by
      have q := HL2.out
      rw [HR8.out, HQ9.out] at q
      dsimp only [andThen] at q
      rw [HR9.out, HR10.out, HQ11.out] at q
      exact q)
     change Code.wp _ _ _ _ (fillW w11 ab z (.slice D z.f6.length u))
     have HA12 := aS (fillW_at HA11.out (.inl (Nat.le_of_lt HAB.out.2)) HAB.out.1 z (.slice D z.f6.length u))
     have HS12 := aS (HS11.out.step (fillW_at (HS11.out.same (X := fun k => k = ab)) (.inr rfl) HAB.out.1 z (.slice D z.f6.length u)) (fun k hk => by have h1 : k = ab := hk; have h2 := HAB.out.2; have h3 := HW.out; have h4 := HS11.out.low; omega) HS11.out.room)
     have HXO12 := aS (fillW_heap HXO11.out z (.slice D z.f6.length u))
     have HO12 := aS (fillW_other HO11.out (show w.heap.size ≠ ab by have := HAB.out.2; omega) z (.slice D z.f6.length u))
     have HX12 := aS (fillW_ex HZ11.out (fun k hk => hk.2) z (.slice D z.f6.length u))
     clear m0 n0 f0 j0 m1 n1 f1 j1 m2 n2 f2 j2 m3 n3 f3 j3 m4 n4 f4 j4 m5 n5 f5 j5 m6 n6 f6 j6 m7 n7 f7 j7 m8 n8 f8 j8 m9 n9 f9 j9 m10 n10 f10 j10 HA10 HS10 HO10 HXO10 HX10 HY10 HYO10 HROW HA11 HS11 HO11 HXO11 HZ11
     generalize fillW w11 ab z (.slice D z.f6.length u) = w12 at *
     by_cases hl3 : lev = 3
     ·have e3l : ((lev : Int) == 3) = true := by rw [hl3]; rfl
      have HR6 := aS (show some (PR.ok z r3) = some res by have q := HL3.out; rw [if_pos hl3] at q; exact q)
      clear hl3
      have m0 := cH HXO12.out 0; have m1 := cH HXO12.out 1; have m2 := cH HXO12.out 2; have m3 := cH HXO12.out 3; have m4 := cH HXO12.out 4; have m5 := cH HXO12.out 5; have m6 := cH HXO12.out 6; have m7 := cH HXO12.out 7; have m8 := cH HXO12.out 8; have m9 := cH HXO12.out 9; have m10 := cH HXO12.out 10;
      have ho6 := HO12.out
      have f0 := blk_frozen ho6 0; have j0 := cH ho6 0; have f1 := blk_frozen ho6 1; have j1 := cH ho6 1; have f2 := blk_frozen ho6 2; have j2 := cH ho6 2; have f3 := blk_frozen ho6 3; have j3 := cH ho6 3; have f4 := blk_frozen ho6 4; have j4 := cH ho6 4; have f5 := blk_frozen ho6 5; have j5 := cH ho6 5; have f6 := blk_frozen ho6 6; have j6 := cH ho6 6; have f7 := blk_frozen ho6 7; have j7 := cH ho6 7; have f8 := blk_frozen ho6 8; have j8 := cH ho6 8; have f9 := blk_frozen ho6 9; have j9 := cH ho6 9; have f10 := blk_frozen ho6 10; have j10 := cH ho6 10;
      clear ho6
      go_wp2
      exact ret_fill rfl rfl HO12.out HA12.out HN.out (.inl (Nat.le_refl _)) (fun k hk => by have := hk.1; omega) (fun k hk => Nat.le_of_lt hk.1) HX12.out HOZ.out HR6.out HR11.out HS12.out.room
     ·have e3l : ((lev : Int) == 3) = false := beq_eq_false_iff_ne.2 (by omega)
      have HR6 := aS (show loopP j lev z (l.drop b3) = some res by have q := HL3.out; rw [if_neg hl3, HR11.out] at q; exact q)
      clear hl3
      go_wp2
      go_roundg j
      case measure => omega
      case rel => exact ⟨b3, z, D, u, ⟨by have := HK.out; omega⟩, HR6, HA12, HS12, HO12, HXO12, HX12, HOZ⟩
  ·have e3 : (tk.f0 == 3) = false := beq_eq_false_iff_ne.2 hk3
   have HR6 := aS (show some (PR.ok x (l.drop a')) = some res by rw [← HLP.out, loopP, if_pos (by rw [HTK.out]; unfold opP; rw [if_neg hk3])])
   clear hk3
   have m0 := cH HXO6.out 0; have m1 := cH HXO6.out 1; have m2 := cH HXO6.out 2; have m3 := cH HXO6.out 3; have m4 := cH HXO6.out 4; have m5 := cH HXO6.out 5; have m6 := cH HXO6.out 6; have m7 := cH HXO6.out 7; have m8 := cH HXO6.out 8; have m9 := cH HXO6.out 9; have m10 := cH HXO6.out 10;
   have ho6 := HO6.out
   have f0 := blk_frozen ho6 0; have j0 := cH ho6 0; have f1 := blk_frozen ho6 1; have j1 := cH ho6 1; have f2 := blk_frozen ho6 2; have j2 := cH ho6 2; have f3 := blk_frozen ho6 3; have j3 := cH ho6 3; have f4 := blk_frozen ho6 4; have j4 := cH ho6 4; have f5 := blk_frozen ho6 5; have j5 := cH ho6 5; have f6 := blk_frozen ho6 6; have j6 := cH ho6 6; have f7 := blk_frozen ho6 7; have j7 := cH ho6 7; have f8 := blk_frozen ho6 8; have j8 := cH ho6 8; have f9 := blk_frozen ho6 9; have j9 := cH ho6 9; have f10 := blk_frozen ho6 10; have j10 := cH ho6 10;
   clear ho6
   go_wp2
   exact ret_fill rfl rfl HO6.out HA6.out HN.out (.inl (Nat.le_refl _)) (fun k hk => by have := hk.1; omega) (fun k hk => Nat.le_of_lt hk.1) HX6.out HOK.out HR6.out rfl HS6.out.room
theorem between_tells {G bp : Nat} {s : ByteArray} {A : Option Addr} {c : Nat} {l : List Tok} {begun : Int} {fv : Value} {k : Nat} (hB : ∀ j, j ≤ k → BetweenT G bp s A c l begun fv j) (hU : UnaryT G bp s A c l begun fv k) : BetweenT G bp s A c l begun fv (k + 1) := by
 intro lev z a w res hz hl h hres
 subst hz
 by_cases h6 : lev = 6
 ·subst h6; exact between_six G bp s A c l begun fv k hU a w res h hres
 ·exact between_less G bp s A c l begun fv k hB lev (by omega) a w res h hres
end Go.Proofs.YtenogedclignmaaDoor.Q
